/- The order of free pages, and the walk of slices.BinarySearchFunc at them. -/
import Derived.Test.YtcoddeemfdnjpaaFreeIns
import Derived.Lib.Hide
set_option linter.unusedSimpArgs false
namespace Go.Proofs.Ytcoddeemfdnjpaa.Free
open Go.RowKit Go.Lib Go.Proofs.Ytcoddeemfdnjpaa.Fn Go.Proofs.YtcoddeemfdnjpaaW.PrintWords
/-- the order of free pages -/
def ltF (a b : S28) : Prop := a.f0 < b.f0 ∨ (a.f0 = b.f0 ∧ a.f1 < b.f1)
instance (a b : S28) : Decidable (ltF a b) := by unfold ltF; exact inferInstance
def ordI (a b : S28) : Int := if a.f0 < b.f0 then -1 else if a.f0 > b.f0 then 1 else if a.f1 < b.f1 then -1 else if a.f1 > b.f1 then 1 else 0
theorem ordI_neg (a b : S28) : ordI a b < 0 ↔ ltF a b := by
  unfold ordI ltF
  split
  · simp; omega
  · split
    · simp; omega
    · split
      · simp; omega
      · split <;> simp <;> omega
theorem ordI_zero (a b : S28) : ordI a b = 0 ↔ a.f0 = b.f0 ∧ a.f1 = b.f1 := by
  unfold ordI
  split
  · simp; omega
  · split
    · simp; omega
    · split
      · simp; omega
      · split <;> simp <;> omega
theorem cmp_f (x y : Int) : cmp_Compare_int.f x y = some (if x < y then -1 else if x > y then 1 else 0) := by
  unfold cmp_Compare_int.f cmp_isNaN_int.f
  simp
  split
  · rfl
  · split <;> rfl
theorem or_f (a b : Int) : cmp_Or_int.f 4 [a, b] = some (if a ≠ 0 then a else b) := by
  have w1 : wrap64 1 = 1 := by unfold wrap64; decide
  have w2 : wrap64 2 = 2 := by unfold wrap64; decide
  have r0 : rd [a, b] 0 = a := rfl
  have r1 : rd [a, b] 1 = b := rfl
  unfold cmp_Or_int.f
  by_cases h : a = 0
  · by_cases h2 : b = 0
    · simp [cmp_Or_int.l0, w1, w2, r0, r1, h, h2, rd]
    · simp [cmp_Or_int.l0, w1, w2, r0, r1, h, h2, rd]
  · simp [cmp_Or_int.l0, w1, w2, r0, r1, h]
theorem order_f (a b : S28) : free_order.f 4 a.f0 a.f1 b.f0 b.f1 = some (ordI a b) := by
  unfold free_order.f
  rw [cmp_f, cmp_f]
  simp only [Option.bind_some]
  rw [or_f]
  simp only [Option.bind_some]
  unfold ordI
  congr 1
  by_cases h1 : a.f0 < b.f0
  · simp [h1]
  · by_cases h2 : a.f0 > b.f0
    · simp [h1, h2]
    · simp [h1, h2]
theorem order_any (a b : S28) (w : World) : Calls Try.prog 30 #[.agg #[.int .i64 a.f0, .int .i64 a.f1], .agg #[.int .i64 b.f0, .int .i64 b.f1]] w fun e w' => e = .returned (.int .i64 (ordI a b)) ∧ Below w.heap.size w w' :=
  free_order.calls 4 a.f0 a.f1 b.f0 b.f1 _ w (order_f a b)

/-- how many stand ahead of f -/
def pos (l : List S28) (f : S28) : Nat := l.countP (fun x => decide (ltF x f))
theorem getD_at {α : Type} (l : List α) (d : α) (i : Nat) (h : i < l.length) : l.getD i d = l[i] := by simp [List.getD, List.getElem?_eq_getElem h]
def zS : S28 := ⟨0, 0⟩
theorem countP_at {α : Type} (p : α → Bool) (d : α) : ∀ (l : List α) (i : Nat), i ≤ l.length → (∀ t, t < i → p (l.getD t d) = true) → (∀ t, i ≤ t → t < l.length → p (l.getD t d) = false) → l.countP p = i
  | [], i, hi, _, _ => by simp at hi; simp [hi]
  | a :: r, 0, _, _, h2 => by
    rw [List.countP_eq_zero]
    intro x hx
    obtain ⟨t, ht, rfl⟩ := List.getElem_of_mem hx
    have := h2 t (Nat.zero_le _) ht
    rw [getD_at _ _ _ ht] at this
    simp [this]
  | a :: r, i + 1, hi, h1, h2 => by
    have ha : p a = true := by simpa using h1 0 (Nat.succ_pos _)
    rw [List.countP_cons_of_pos ha, countP_at p d r i (by simpa using hi) (fun t ht => by simpa using h1 (t + 1) (by omega)) (fun t h3 h4 => by simpa using h2 (t + 1) (by omega) (by simpa using h4))]
theorem below_drewN {B : Nat} {w w' : World} (n : Nat) (h : Below B w w') : Below B w (w'.drewN n) := ⟨h.os, h.tape, h.output, h.size, h.block⟩
/-- who stands ahead of f stands ahead of who does not -/
def Mono (l : List S28) (f : S28) : Prop := ∀ a b, a ≤ b → b < l.length → ltF (l.getD b zS) f → ltF (l.getD a zS) f
set_option maxHeartbeats 4000000 in
set_option maxRecDepth 100000 in
theorem search_row (w : World) (g off c : Nat) (l : List S28) (f : S28) (R : Row w g off c l) (hn : l.length < 100000) (hm : Mono l f) :
    Calls Try.prog 29 #[.slice (some ⟨g, off, none⟩) l.length c, .agg #[.int .i64 f.f0, .int .i64 f.f1], .func (.func 30) #[] #[]] w fun e w' => (∃ b : Bool, e = .returned (.tuple #[.int .i64 (pos l f : Nat), .bool b])) ∧ Below w.heap.size w w' := by
  have M : Hid (Mono l f) := hm
  have P0 : Hid (pos l f = pos l f) := rfl
  clear hm
  have hglt : g < w.heap.size := R.lt
  have hat := Lib.hid (fun (i : Nat) (hi : i < l.length) => (⟨by have := R.at0 i hi; rwa [← getD_at l zS i hi] at this, by have := R.at1 i hi; rwa [← getD_at l zS i hi] at this⟩ : w.cell? ⟨g, off + i * 2, none⟩ = some (.int .i64 (l.getD i zS).f0) ∧ w.cell? ⟨g, off + i * 2 + 1, none⟩ = some (.int .i64 (l.getD i zS).f1)))
  have hnd : Hid (∃ n, l.length = n) := ⟨_, rfl⟩
  obtain ⟨n, en⟩ := hnd.out
  have en' := Lib.hid en
  have hpos := Lib.hid (fun (i : Nat) (hi : i ≤ l.length) (h1 : ∀ t, t < i → ltF (l.getD t zS) f) (h2 : ∀ t, i ≤ t → t < l.length → ¬ ltF (l.getD t zS) f) => (countP_at (fun x => decide (ltF x f)) zS l i hi (fun t ht => decide_eq_true (h1 t ht)) (fun t h3 h4 => decide_eq_false (h2 t h3 h4)) : pos l f = i))
  obtain ⟨p, hp⟩ : ∃ p, p = pos l f := ⟨_, rfl⟩
  have hp' := Lib.hid hp
  rw [← hp]
  rw [en] at hn ⊢
  clear R hnd P0 en hp
  obtain ⟨w1, hw1⟩ : ∃ w1, w1 = w.alloc (.cells #[.int .i64 f.f0, .int .i64 f.f1] 28) := ⟨_, rfl⟩
  have B0 := Lib.hid (show Below w.heap.size w w1 by rw [hw1]; exact (Below.refl _ _).alloc (Nat.le_refl _) _)
  have z1 := Lib.hid (show w1.heap.size = w.heap.size + 1 by rw [hw1]; simp)
  have t0 := Lib.hid (show w1.cell? ⟨w.heap.size, 0, none⟩ = some (.int .i64 f.f0) by rw [hw1, World.cell?_alloc_at _ _ _ _ rfl]; rfl)
  have t1 := Lib.hid (show w1.cell? ⟨w.heap.size, 1, none⟩ = some (.int .i64 f.f1) by rw [hw1, World.cell?_alloc_at _ _ _ _ rfl]; rfl)
  have hw1' := Lib.hid hw1
  clear hw1
  have HC := Lib.hid (fun (v : World) (hv : Below w1.heap.size w1 v) (i : Nat) (hi : i < n) => (⟨by rw [hv.cell (by rw [z1.out]; exact Nat.lt_succ_self _)]; exact t0.out, by rw [hv.cell (by rw [z1.out]; exact Nat.lt_succ_self _)]; exact t1.out,
    by rw [hv.cell (by rw [z1.out]; exact Nat.lt_succ_of_lt hglt), B0.out.cell hglt]; exact (hat.out i (by rw [en'.out]; exact hi)).1, by rw [hv.cell (by rw [z1.out]; exact Nat.lt_succ_of_lt hglt), B0.out.cell hglt]; exact (hat.out i (by rw [en'.out]; exact hi)).2⟩ :
      v.cell? ⟨w.heap.size, 0, none⟩ = some (.int .i64 f.f0) ∧ v.cell? ⟨w.heap.size, 1, none⟩ = some (.int .i64 f.f1) ∧ v.cell? ⟨g, off + i * 2, none⟩ = some (.int .i64 (l.getD i zS).f0) ∧ v.cell? ⟨g, off + i * 2 + 1, none⟩ = some (.int .i64 (l.getD i zS).f1)))
  have HB := Lib.hid (fun (a : S28) (v : World) (hv : Below w1.heap.size w1 v) => (order_any a f v).mono (fun e w' h => (⟨h.1, hv.trans (h.2.mono hv.size)⟩ : e = .returned (.int .i64 (ordI a f)) ∧ Below w1.heap.size w1 w')))
  have mixed : Try.prog.follows Departure.mixedOrders = true := by kernel_rfl
  have e0 : Hid (w1 = w1) := rfl
  go_enter Try.func29, Try.ntmps29
  go_wp2
  rw [← hw1'.out]
  go_loopw [9, 10] (fun a b wr => ∃ lo hi : Nat, a = .int .i64 lo ∧ b = .int .i64 hi ∧ lo ≤ hi ∧ hi ≤ n ∧ Hid (Below w1.heap.size w1 wr) ∧ Hid ((∀ t, t < lo → ltF (l.getD t zS) f) ∧ (∀ t, hi ≤ t → t < l.length → ¬ ltF (l.getD t zS) f))) (fun a b _ => (RowKit.intOf b).toNat - (RowKit.intOf a).toNat)
  case atStart => exact ⟨0, n, rfl, rfl, Nat.zero_le _, Nat.le_refl _, Below.refl _ _, ⟨fun t ht => absurd ht (Nat.not_lt_zero _), fun t h1 h2 => by rw [en'.out] at h2; omega⟩⟩
  case round =>
    obtain ⟨lo, hi, rfl, rfl, hlh, hin, hb, I⟩ := hrel
    by_cases hlt : lo < hi
    · have hmid : (lo + hi) / 2 < n := by omega
      have hHC := Lib.hid (fun v hv => HC.out v hv _ hmid)
      obtain ⟨m, hm⟩ : ∃ m, m = (lo + hi) / 2 := ⟨_, rfl⟩
      have hmI : ((lo : Int) + (hi : Int)) / 2 = (m : Int) := by omega
      rw [← hm] at hHC hmid
      obtain ⟨x, hx⟩ : ∃ x, x = l.getD m zS := ⟨_, rfl⟩
      rw [← hx] at hHC
      have hx' := Lib.hid hx
      have hm' := Lib.hid hm
      have hc := Lib.hid (hHC.out _ hb.out)
      have hlm : lo ≤ m := by omega
      have hmh : m < hi := by omega
      have hb0 : (0 : Int) ≤ (m : Int) := by omega
      have hb1 : (m : Int) < (n : Int) := by omega
      have HX := Lib.hid (fun (v : World) (hv : Below w1.heap.size w1 v) => (⟨(hHC.out v hv).1, (hHC.out v hv).2.1, (hHC.out v hv).2.2.1, (hHC.out v hv).2.2.2, hv⟩ : v.cell? ⟨w.heap.size, 0, none⟩ = some (.int .i64 f.f0) ∧ v.cell? ⟨w.heap.size, 1, none⟩ = some (.int .i64 f.f1) ∧ v.cell? ⟨g, off + m * 2, none⟩ = some (.int .i64 x.f0) ∧ v.cell? ⟨g, off + m * 2 + 1, none⟩ = some (.int .i64 x.f1) ∧ Hid (Below w1.heap.size w1 v)))
      have hbd := Lib.hid (hb.out.drew)
      clear hx hm hc
      go_wp2_with fail
      go_region_held3 (fun v => v.cell? ⟨w.heap.size, 0, none⟩ = some (.int .i64 f.f0) ∧ v.cell? ⟨w.heap.size, 1, none⟩ = some (.int .i64 f.f1) ∧ v.cell? ⟨g, off + m * 2, none⟩ = some (.int .i64 x.f0) ∧ v.cell? ⟨g, off + m * 2 + 1, none⟩ = some (.int .i64 x.f1) ∧ Hid (Below w1.heap.size w1 v))
        (first | exact HX.out _ hbd.out | exact HX.out _ (by assumption))
        (first | (go_at_call 30; refine (HB.out x _ ?_).mono ?_; (first | exact hbd.out | exact (‹_ ∧ _ ∧ _ ∧ _ ∧ Hid (Below _ _ _)› : _ ∧ _ ∧ _ ∧ _ ∧ Hid (Below _ _ _)).2.2.2.2.out); rintro e w' ⟨rfl, hHx⟩))
      all_goals
        rename_i hHeld
        clear hHx
        have hHx := (‹_ ∧ _ ∧ _ ∧ _ ∧ Hid (Below _ _ _)› : _ ∧ _ ∧ _ ∧ _ ∧ Hid (Below _ _ _)).2.2.2.2
        clear hHeld
        have ho := ordI_neg x f
        obtain ⟨o, hoo⟩ : ∃ o, o = ordI x f := ⟨_, rfl⟩
        rw [← hoo] at ho ⊢
        clear hoo
        by_cases hneg : o < 0
        · have hlx := ho.1 hneg
          have I2 : Hid ((∀ t, t < m + 1 → ltF (l.getD t zS) f) ∧ (∀ t, hi ≤ t → t < l.length → ¬ ltF (l.getD t zS) f)) := ⟨fun t ht => M.out t m (by omega) (by rw [en'.out]; exact hmid) (by rw [← hx'.out]; exact hlx), I.out.2⟩
          clear ho hlx
          go_wp2
          go_round
          case rel => exact ⟨m + 1, hi, by go_num, rfl, by omega, hin, hHx, I2⟩
          case measure => simp [RowKit.intOf]; omega
        · have hlx : ¬ ltF x f := fun h => hneg (ho.2 h)
          have I2 : Hid ((∀ t, t < lo → ltF (l.getD t zS) f) ∧ (∀ t, m ≤ t → t < l.length → ¬ ltF (l.getD t zS) f)) := ⟨I.out.1, fun t ht htn h => hlx (by rw [hx'.out]; exact M.out m t ht htn h)⟩
          clear ho hlx
          go_wp2
          go_round
          case rel => exact ⟨lo, m, rfl, rfl, hlm, by omega, hHx, I2⟩
          case measure => simp [RowKit.intOf]; omega
    · have ehi : hi = lo := by omega
      have ep : p = lo := by rw [hp'.out]; exact hpos.out lo (by rw [en'.out]; omega) I.out.1 (by rw [← ehi]; exact I.out.2)
      subst ep
      have hbd := Lib.hid (hb.out.drew)
      by_cases hfin : p < n
      · have hHC := Lib.hid (fun v hv => HC.out v hv _ hfin)
        obtain ⟨x, hx⟩ : ∃ x, x = l.getD p zS := ⟨_, rfl⟩
        rw [← hx] at hHC
        have hb0 : (0 : Int) ≤ (p : Int) := by omega
        have hb1 : (p : Int) < (n : Int) := by omega
        have HX := Lib.hid (fun (v : World) (hv : Below w1.heap.size w1 v) => (⟨(hHC.out v hv).1, (hHC.out v hv).2.1, (hHC.out v hv).2.2.1, (hHC.out v hv).2.2.2, hv⟩ : v.cell? ⟨w.heap.size, 0, none⟩ = some (.int .i64 f.f0) ∧ v.cell? ⟨w.heap.size, 1, none⟩ = some (.int .i64 f.f1) ∧ v.cell? ⟨g, off + p * 2, none⟩ = some (.int .i64 x.f0) ∧ v.cell? ⟨g, off + p * 2 + 1, none⟩ = some (.int .i64 x.f1) ∧ Hid (Below w1.heap.size w1 v)))
        clear hx
        go_wp2_with fail
        go_region_held3 (fun v => v.cell? ⟨w.heap.size, 0, none⟩ = some (.int .i64 f.f0) ∧ v.cell? ⟨w.heap.size, 1, none⟩ = some (.int .i64 f.f1) ∧ v.cell? ⟨g, off + p * 2, none⟩ = some (.int .i64 x.f0) ∧ v.cell? ⟨g, off + p * 2 + 1, none⟩ = some (.int .i64 x.f1) ∧ Hid (Below w1.heap.size w1 v))
          (first | exact HX.out _ hbd.out | exact HX.out _ (by assumption))
          (first | (go_at_call 30; refine (HB.out x _ ?_).mono ?_; (first | exact hbd.out | exact (‹_ ∧ _ ∧ _ ∧ _ ∧ Hid (Below _ _ _)› : _ ∧ _ ∧ _ ∧ _ ∧ Hid (Below _ _ _)).2.2.2.2.out); rintro e w' ⟨rfl, hHx⟩))
        all_goals
          go_wp2
          go_ret2
          exact ⟨⟨_, rfl⟩, B0.out.trans (hHx.mono (by rw [z1.out]; omega))⟩
      · go_wp2_with fail
        go_quiet (fail)
        go_wp2
        go_ret2
        exact ⟨⟨_, rfl⟩, B0.out.trans (Below.mono (B' := w.heap.size) (below_drewN nq hb.out) (by rw [z1.out]; omega))⟩
set_option maxHeartbeats 4000000 in
set_option maxRecDepth 100000 in
theorem search_nil (w : World) (f : S28) :
    Calls Try.prog 29 #[.slice none 0 0, .agg #[.int .i64 f.f0, .int .i64 f.f1], .func (.func 30) #[] #[]] w fun e w' => (∃ b : Bool, e = .returned (.tuple #[.int .i64 (pos [] f : Nat), .bool b])) ∧ Below w.heap.size w w' := by
  show Calls Try.prog 29 #[.slice none 0 0, .agg #[.int .i64 f.f0, .int .i64 f.f1], .func (.func 30) #[] #[]] w fun e w' => (∃ b : Bool, e = .returned (.tuple #[.int .i64 0, .bool b])) ∧ Below w.heap.size w w'
  have mixed : Try.prog.follows Departure.mixedOrders = true := by kernel_rfl
  have B1 := Lib.hid ((Below.refl w.heap.size w).alloc (Nat.le_refl _) (Obj.cells #[.int .i64 f.f0, .int .i64 f.f1] 28))
  go_enter Try.func29, Try.ntmps29
  go_wp2
  go_loop [9, 10] (fun a b => a = .int .i64 0 ∧ b = .int .i64 0) (fun _ _ => 0)
  case atStart => exact ⟨rfl, rfl⟩
  case round =>
    obtain ⟨rfl, rfl⟩ := hrel
    go_wp2_with fail
    go_quiet (fail)
    go_wp2
    go_ret2
    exact ⟨⟨_, rfl⟩, below_drewN nq B1.out⟩
theorem search_any (w : World) (ok : Nat → Prop) (v : Value) (l : List S28) (f : S28) (H : Lst w ok v l) (hn : l.length < 100000) (hm : Mono l f) :
    Calls Try.prog 29 #[v, .agg #[.int .i64 f.f0, .int .i64 f.f1], .func (.func 30) #[] #[]] w fun e w' => (∃ b : Bool, e = .returned (.tuple #[.int .i64 (pos l f : Nat), .bool b])) ∧ Below w.heap.size w w' := by
  rcases H with ⟨rfl, rfl⟩ | ⟨g, off, c, rfl, hg, R⟩
  · exact search_nil w f
  · exact search_row w g off c l f R hn hm
#print axioms search_any
end Go.Proofs.Ytcoddeemfdnjpaa.Free
