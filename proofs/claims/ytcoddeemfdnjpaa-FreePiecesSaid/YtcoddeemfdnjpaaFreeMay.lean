/- The walk of free.may: may free pages be a piece's? -/
import Derived.Test.YtcoddeemfdnjpaaFreePlain
import Derived.Deep.AppendLies
namespace Go.Proofs.Ytcoddeemfdnjpaa.Free
open Go.RowKit Go.Lib Go.Proofs.Ytcoddeemfdnjpaa.Fn
open Go.Proofs.YtcoddeemfdnjpaaW.PrintWords hiding nums nums_length nums_append
theorem info53 : (Try.prog.info? 53).map (fun i => (i.zero, i.size)) = some (some (.agg (Array.replicate 512 (.bool false))), 512) := by kernel_rfl
theorem zero53 (w : World) : (zeroValue 53).run Try.prog w = .ok (.agg (Array.replicate 512 (.bool false))) w := by
  have h := info53
  cases hi : Try.prog.info? 53 with
  | none => rw [hi] at h; cases h
  | some i =>
    rw [hi] at h
    simp only [Option.map_some, Option.some.injEq, Prod.mk.injEq] at h
    simp [zeroValue, typeInfo, hi, h.1]
/-- where 'may' stands -/
structure MaySt (w : World) (b : Nat) (l : List S28) (k : Nat) (wr : World) : Prop where
  below : Below w.heap.size w wr
  tab : ∀ p, p < 512 → wr.cell? ⟨b, p, none⟩ = some (.bool (isIn (l.take k) p))
  froz : ∀ j, wr.frozen? ⟨b, j, none⟩ = false
  lt : b < wr.heap.size
  okl : OKL (l.take k)
attribute [local go_sem] Go.undef
set_option maxHeartbeats 16000000 in
set_option maxRecDepth 100000 in
theorem may_any (next : Int) (A : Option Addr) (c : Nat) (l : List S28) (w : World) (hC : Kd.C k28 w A l.length l) :
    Calls Try.prog 36 #[.int .i64 next, .slice A l.length c] w fun e w' => e = .returned (.bool (mayB next l)) ∧ Below w.heap.size w w' := by
  have hnl : l.length ≤ 9223372036854775807 := hC.2.1
  by_cases h1 : next < 0
  · have e : mayB next l = false := decide_eq_false (by omega)
    rw [e]
    go_enter Try.func36, Try.ntmps36
    go_wp2
    go_ret
    exact ⟨rfl, Below.refl _ _⟩
  · by_cases h2 : 512 ≤ next
    · have e : mayB next l = false := decide_eq_false (by omega)
      rw [e]
      go_enter Try.func36, Try.ntmps36
      go_wp2
      go_ret
      exact ⟨rfl, Below.refl _ _⟩
    · obtain ⟨n, hn⟩ : ∃ n, n = l.length := ⟨_, rfl⟩
      have hn' := Lib.hid hn
      have hfr := Lib.hid (frees_of hC)
      rw [← hn] at hnl ⊢
      by_cases h3 : 40 < n
      · have e : mayB next l = false := decide_eq_false (by omega)
        rw [e]
        have h3' : (40 : Int) < (n : Int) := by omega
        clear hn hC
        go_enter Try.func36, Try.ntmps36
        go_wp2
        go_ret
        exact ⟨rfl, Below.refl _ _⟩
      · have e0 : Hid (mayB next l = decide (OKL l)) := by
          show _ = _
          unfold mayB
          rw [decide_eq_decide]
          exact ⟨fun h => h.2.2.2, fun h => ⟨by omega, by omega, by omega, h⟩⟩
        have h3' : ¬ ((40 : Int) < (n : Int)) := by omega
        obtain ⟨t, ht⟩ : ∃ t, t = mayB next l := ⟨_, rfl⟩
        have ht' := Lib.hid ht
        rw [← ht]
        have hz := zero53 w
        obtain ⟨Z, hZ⟩ : ∃ Z : Array Value, Z = Array.replicate 512 (.bool false) := ⟨_, rfl⟩
        rw [← hZ] at hz
        have hZ' := Lib.hid hZ
        obtain ⟨w1, hw1⟩ : ∃ w1, w1 = w.alloc (.cells Z 53) := ⟨_, rfl⟩
        obtain ⟨b, hb⟩ : ∃ b, b = w.heap.size := ⟨_, rfl⟩
        have hw1' := Lib.hid hw1
        have hb' := Lib.hid hb
        have S0 := Lib.hid (show MaySt w b l 0 w1 from ⟨by rw [hw1]; exact (Below.refl _ _).alloc (Nat.le_refl _) _, fun p hp => by
            rw [hw1, hb, World.cell?_alloc_at _ _ _ _ rfl, hZ]
            simp [hp, isIn], fun j => by rw [hw1, hb]; exact World.frozen?_alloc_at _ _ _ _ rfl, by rw [hw1, hb]; simp, ⟨fun x hx => by simp at hx, by simp, by simp⟩⟩)
        have hwb : w.heap.size ≤ b := Nat.le_of_eq hb.symm
        have hF := Lib.hid (fun (h : ¬ OKL l) => (by rw [ht'.out, e0.out]; exact decide_eq_false h : t = false))
        have hT := Lib.hid (fun (h : OKL l) => (by rw [ht'.out, e0.out]; exact decide_eq_true h : t = true))
        clear hn hC ht hZ hw1 hb e0
        go_enter Try.func36, Try.ntmps36
        go_wp2
        rw [← hw1'.out, ← hb'.out]
        clear hw1' hb' hz
        go_loopw [21] (fun i wr => ∃ k : Nat, k ≤ n ∧ i = .int .i64 k ∧ Hid (MaySt w b l k wr)) (fun i _ => n - (RowKit.intOf i).toNat)
        case atStart => exact ⟨0, by omega, rfl, S0.out⟩
        case round =>
          clear S0
          obtain ⟨k, hk, rfl, S⟩ := hrel
          by_cases hlt : k < n
          · have hkl : k < l.length := by rw [← hn'.out]; exact hlt
            obtain ⟨g, off, rfl, hfa⟩ := hfr.out.resolve_left (fun e => by rw [e] at hkl; simp at hkl)
            have hfb := hfa.below S.out.below
            obtain ⟨a0, a1⟩ := hfb k hkl
            have q0 : (0 : Int) ≤ (k : Int) := by omega
            have q1 : (k : Int) < (n : Int) := by omega
            have hkl' := Lib.hid hkl
            have hfa' := Lib.hid hfa
            clear hkl hfa hfb
            obtain ⟨x, hx⟩ : ∃ x, x = l.getD k zS := ⟨_, rfl⟩
            have hx' := Lib.hid hx
            rw [← hx] at a0 a1
            have hcb := Lib.hid (show wr.heap.size = wr.heap.size from rfl)
            obtain ⟨w5, hw5⟩ : ∃ w5, w5 = wr.alloc (.cells #[.int .i64 x.f0, .int .i64 x.f1] 28) := ⟨_, rfl⟩
            obtain ⟨cb, hcbe⟩ : ∃ cb, cb = wr.heap.size := ⟨_, rfl⟩
            have hw5' := Lib.hid hw5
            have hcb' := Lib.hid hcbe
            have z5 : w5.heap.size = cb + 1 := by rw [hw5, hcbe]; simp
            have hbc : b < cb := by rw [hcbe]; exact S.out.lt
            have B5 := Lib.hid (show Below wr.heap.size wr w5 by rw [hw5]; exact (Below.refl _ _).alloc (Nat.le_refl _) _)
            have t0 := Lib.hid (show w5.cell? ⟨cb, 0, none⟩ = some (.int .i64 x.f0) by rw [hw5, hcbe, World.cell?_alloc_at _ _ _ _ rfl]; rfl)
            have t1 := Lib.hid (show w5.cell? ⟨cb, 1, none⟩ = some (.int .i64 x.f1) by rw [hw5, hcbe, World.cell?_alloc_at _ _ _ _ rfl]; rfl)
            have f5 := Lib.hid (fun (u : World) (hu : Below w5.heap.size w5 u) => ((hfa'.out.below S.out.below).below (B5.out.trans (hu.mono (by rw [z5, ← hcb'.out]; omega)))))
            have tb5 := Lib.hid (fun (u : World) (hu : Below w5.heap.size w5 u) (q : Nat) (hq : q < 512) => (by
              rw [hu.cell (p := ⟨b, q, none⟩) (by rw [z5]; show b < cb + 1; omega), B5.out.cell (p := ⟨b, q, none⟩) (by rw [← hcb'.out]; exact hbc)]; exact S.out.tab q hq : u.cell? ⟨b, q, none⟩ = some (.bool (isIn (l.take k) q))))
            have hc5 := Lib.hid (fun (u : World) (hu : Below w5.heap.size w5 u) => (⟨by rw [hu.cell (p := ⟨cb, 0, none⟩) (by rw [z5]; exact Nat.lt_succ_self _)]; exact t0.out, by rw [hu.cell (p := ⟨cb, 1, none⟩) (by rw [z5]; exact Nat.lt_succ_self _)]; exact t1.out⟩ : u.cell? ⟨cb, 0, none⟩ = some (.int .i64 x.f0) ∧ u.cell? ⟨cb, 1, none⟩ = some (.int .i64 x.f1)))
            have hB5 := Lib.hid (fun (u : World) (hu : Below w5.heap.size w5 u) => (S.out.below.trans ((B5.out.trans (hu.mono (by rw [z5, ← hcb'.out]; omega))).mono S.out.below.size) : Below w.heap.size w u))
            have hr := Lib.hid (fun (u : World) (hu : Below w5.heap.size w5 u) => (right_any x u).mono (fun e w' h => (⟨h.1, hu.trans (h.2.mono hu.size)⟩ : e = .returned (.bool (decide (right x))) ∧ Below w5.heap.size w5 w')))
            have d5 := Lib.hid ((Below.refl w5.heap.size w5).drew)
            clear hx hw5 hcbe
            by_cases hri : right x
            · obtain ⟨p, hp⟩ : ∃ p : Nat, x.f1 = (p : Int) := ⟨x.f1.toNat, by unfold right at hri; omega⟩
              have hp5 : p < 512 := by unfold right at hri; omega
              have hp6 : (p : Int) < 512 := by omega
              have hd : decide (right x) = true := decide_eq_true hri
              have hri' := Lib.hid hri
              rw [hd] at hr
              clear hd hri
              rw [hp] at hc5
              have hp' := Lib.hid hp
              by_cases hin : isIn (l.take k) p = true
              · have ht : t = false := hF.out (fun h => by have := okl_in h hkl'.out (p := p) (by rw [← hx'.out]; exact hp); rw [hin] at this; cases this)
                subst ht
                have tbp := Lib.hid (fun u hu => tb5.out u hu p hp5)
                rw [hin] at tbp
                clear hin hp
                go_wp2_with fail
                rw [← hw5'.out, ← hcb'.out]
                obtain ⟨c0, c1⟩ := hc5.out _ (Below.refl _ _)
                rw [hp'.out] at hr
                first
                  | (go_region_with (first | (go_at_call 28; refine (hr.out _ d5.out).mono ?_; rintro e w' ⟨rfl, hHx⟩; obtain ⟨y0, y1⟩ := hc5.out _ hHx; have y2 := tbp.out _ hHx)))
                  | fail "region"
                all_goals
                  go_wp2
                  go_ret
                  exact ⟨rfl, hB5.out _ hHx⟩
              · have hin' : isIn (l.take k) p = false := by simpa using hin
                have tbp := Lib.hid (fun u hu => tb5.out u hu p hp5)
                rw [hin'] at tbp
                -- what follows where the element may stand
                have hgo := Lib.hid (fun (u : World) (hu : Below w5.heap.size w5 u) (ho : k = 0 ∨ ltF (l.getD (k - 1) zS) (l.getD k zS)) => (⟨(hB5.out u hu).setCell (p := ⟨b, p, none⟩) hwb _, fun q hq => by
                    rw [isIn_take hkl'.out q, ← hx'.out, hp]
                    by_cases e : p = q
                    · subst e
                      simp only [decide_true, Bool.true_or]
                      exact World.cell?_setCell_same u ⟨b, p, none⟩ _ (tbp.out u hu)
                    · have e2 : decide ((p : Int) = (q : Int)) = false := decide_eq_false (by omega)
                      rw [e2, Bool.false_or, cell_setCell_ne _ _ _ _ _ (fun h => e h.symm)]
                      exact tb5.out u hu q hq, fun j => by
                    rw [World.frozen?_setCell, hu.frozen (p := ⟨b, j, none⟩) (by rw [z5]; show b < cb + 1; omega), B5.out.frozen (p := ⟨b, j, none⟩) (by rw [← hcb'.out]; exact hbc)]; exact S.out.froz j,
                    by simp only [World.setCell, Array.size_modify]; have := hu.size; omega, okl_step S.out.okl hkl'.out (by rw [← hx'.out]; exact hri'.out) (by rw [← hx'.out]; exact hp) hin' ho⟩ : MaySt w b l (k + 1) (u.setCell ⟨b, p, none⟩ (.bool true))))
                have fz := Lib.hid (fun (u : World) (hu : Below w5.heap.size w5 u) => (by rw [hu.frozen (p := ⟨b, p, none⟩) (by rw [z5]; show b < cb + 1; omega), B5.out.frozen (p := ⟨b, p, none⟩) (by rw [← hcb'.out]; exact hbc)]; exact S.out.froz p : u.frozen? ⟨b, p, none⟩ = false))
                clear hin hin'
                cases k with
                | zero =>
                  clear hp
                  simp only [Nat.zero_mul, Nat.add_zero] at a0 a1
                  go_wp2_with fail
                  rw [← hw5'.out, ← hcb'.out]
                  obtain ⟨c0, c1⟩ := hc5.out _ (Below.refl _ _)
                  rw [hp'.out] at hr
                  first
                    | (go_region_with (first | (go_at_call 28; refine (hr.out _ d5.out).mono ?_; rintro e w' ⟨rfl, hHx⟩; obtain ⟨y0, y1⟩ := hc5.out _ hHx; have y2 := tbp.out _ hHx; have y3 := fz.out _ hHx)))
                    | fail "region"
                  all_goals
                    go_wp2
                    go_roundw
                    case rel => exact ⟨1, by omega, by go_num, hgo.out _ hHx (by first | exact .inl rfl | exact .inl trivial)⟩
                    case measure => simp [RowKit.intOf]; omega
                | succ j =>
                  clear hp
                  have hjn : (j : Int) < (n : Int) := by omega
                  have hj0 : (0 : Int) ≤ (j : Int) := by omega
                  have hj1 : (0 : Int) < (j : Int) + 1 := by omega
                  have hj40 : j < 40 := by omega
                  have hw1 : IntKind.i64.wrap ((j : Int) + 1 - 1) = (j : Int) := by rw [IntKind.wrap_i64]; omega
                  have hw2 : IntKind.i64.wrap (j : Int) = (j : Int) := by rw [IntKind.wrap_i64]; omega
                  have hw3 : IntKind.i64.wrap (((j + 1 : Nat) : Int) - 1) = (j : Int) := by rw [IntKind.wrap_i64]; omega
                  have hjl : j < l.length := by have := hkl'.out; omega
                  have hF2 := Lib.hid (fun (h : ¬ ltF (l.getD j zS) x) => hF.out (fun hk => h (by rw [hx'.out]; exact okl_lt hk hkl'.out (Nat.succ_pos j))))
                  have hgo2 := Lib.hid (fun (u : World) (hu : Below w5.heap.size w5 u) (h : ltF (l.getD j zS) x) => hgo.out u hu (.inr (by rw [← hx'.out]; exact h)))
                  have fy := Lib.hid (fun (u : World) (hu : Below w5.heap.size w5 u) => f5.out u hu j hjl)
                  have ho := Lib.hid (fun (u : World) (hu : Below w5.heap.size w5 u) => (order_any (l.getD j zS) x u).mono (fun e w' h => (⟨h.1, hu.trans (h.2.mono hu.size)⟩ : e = .returned (.int .i64 (ordI (l.getD j zS) x)) ∧ Below w5.heap.size w5 w')))
                  have hneg := ordI_neg (l.getD j zS) x
                  obtain ⟨y, hy⟩ : ∃ y, y = l.getD j zS := ⟨_, rfl⟩
                  obtain ⟨o, hoo⟩ : ∃ o, o = ordI y x := ⟨_, rfl⟩
                  rw [← hy] at hF2 hgo2 fy ho hneg
                  rw [← hoo] at ho hneg
                  clear hy hoo hgo hjl
                  have hneg' := Lib.hid hneg
                  clear hneg
                  by_cases hon : o < 0
                  · have hl := hneg'.out.1 hon
                    have hgo3 := Lib.hid (fun u hu => hgo2.out u hu hl)
                    have hoz : ¬ (0 ≤ o) := by omega
                    clear hl hon
                    go_wp2_with fail
                    rw [← hw5'.out, ← hcb'.out]
                    rw [hp'.out] at hr ho
                    have HX := Lib.hid (fun (u : World) (hu : Below w5.heap.size w5 u) => (⟨(hc5.out u hu).1, (hc5.out u hu).2, tbp.out u hu, (fy.out u hu).1, (fy.out u hu).2, hu⟩ : u.cell? ⟨cb, 0, none⟩ = some (.int .i64 x.f0) ∧ u.cell? ⟨cb, 1, none⟩ = some (.int .i64 (p : Int)) ∧ u.cell? ⟨b, p, none⟩ = some (.bool false) ∧ u.cell? ⟨g, off + j * 2, none⟩ = some (.int .i64 y.f0) ∧ u.cell? ⟨g, off + j * 2 + 1, none⟩ = some (.int .i64 y.f1) ∧ Hid (Below w5.heap.size w5 u)))
                    go_region_held3 (fun u => u.cell? ⟨cb, 0, none⟩ = some (.int .i64 x.f0) ∧ u.cell? ⟨cb, 1, none⟩ = some (.int .i64 (p : Int)) ∧ u.cell? ⟨b, p, none⟩ = some (.bool false) ∧ u.cell? ⟨g, off + j * 2, none⟩ = some (.int .i64 y.f0) ∧ u.cell? ⟨g, off + j * 2 + 1, none⟩ = some (.int .i64 y.f1) ∧ Hid (Below w5.heap.size w5 u))
                      (first | exact HX.out _ d5.out | exact HX.out _ (by assumption))
                      (first
                        | (go_at_call 28; refine (hr.out _ ?_).mono ?_; (first | exact d5.out | exact (‹_ ∧ _ ∧ _ ∧ _ ∧ _ ∧ Hid (Below _ _ _)› : _ ∧ _ ∧ _ ∧ _ ∧ _ ∧ Hid (Below _ _ _)).2.2.2.2.2.out); rintro e w' ⟨rfl, hHx⟩)
                        | (go_at_call 30; refine (ho.out _ ?_).mono ?_; (first | exact d5.out | exact (‹_ ∧ _ ∧ _ ∧ _ ∧ _ ∧ Hid (Below _ _ _)› : _ ∧ _ ∧ _ ∧ _ ∧ _ ∧ Hid (Below _ _ _)).2.2.2.2.2.out); rintro e w6 ⟨rfl, hHy⟩))
                    all_goals
                      obtain ⟨x0, x1⟩ := hc5.out _ hHy
                      have x2 := tbp.out _ hHy
                      have x3 := fz.out _ hHy
                      go_wp2
                      go_roundw
                      case rel => exact ⟨j + 2, by omega, by go_num, hgo3.out _ hHy⟩
                      case measure => simp [RowKit.intOf]; omega
                  · have ht : t = false := hF2.out (fun h => hon (hneg'.out.2 h))
                    subst ht
                    have hoz : 0 ≤ o := by omega
                    clear hon
                    go_wp2_with fail
                    rw [← hw5'.out, ← hcb'.out]
                    rw [hp'.out] at hr ho
                    have HX := Lib.hid (fun (u : World) (hu : Below w5.heap.size w5 u) => (⟨(hc5.out u hu).1, (hc5.out u hu).2, tbp.out u hu, (fy.out u hu).1, (fy.out u hu).2, hu⟩ : u.cell? ⟨cb, 0, none⟩ = some (.int .i64 x.f0) ∧ u.cell? ⟨cb, 1, none⟩ = some (.int .i64 (p : Int)) ∧ u.cell? ⟨b, p, none⟩ = some (.bool false) ∧ u.cell? ⟨g, off + j * 2, none⟩ = some (.int .i64 y.f0) ∧ u.cell? ⟨g, off + j * 2 + 1, none⟩ = some (.int .i64 y.f1) ∧ Hid (Below w5.heap.size w5 u)))
                    go_region_held3 (fun u => u.cell? ⟨cb, 0, none⟩ = some (.int .i64 x.f0) ∧ u.cell? ⟨cb, 1, none⟩ = some (.int .i64 (p : Int)) ∧ u.cell? ⟨b, p, none⟩ = some (.bool false) ∧ u.cell? ⟨g, off + j * 2, none⟩ = some (.int .i64 y.f0) ∧ u.cell? ⟨g, off + j * 2 + 1, none⟩ = some (.int .i64 y.f1) ∧ Hid (Below w5.heap.size w5 u))
                      (first | exact HX.out _ d5.out | exact HX.out _ (by assumption))
                      (first
                        | (go_at_call 28; refine (hr.out _ ?_).mono ?_; (first | exact d5.out | exact (‹_ ∧ _ ∧ _ ∧ _ ∧ _ ∧ Hid (Below _ _ _)› : _ ∧ _ ∧ _ ∧ _ ∧ _ ∧ Hid (Below _ _ _)).2.2.2.2.2.out); rintro e w' ⟨rfl, hHx⟩)
                        | (go_at_call 30; refine (ho.out _ ?_).mono ?_; (first | exact d5.out | exact (‹_ ∧ _ ∧ _ ∧ _ ∧ _ ∧ Hid (Below _ _ _)› : _ ∧ _ ∧ _ ∧ _ ∧ _ ∧ Hid (Below _ _ _)).2.2.2.2.2.out); rintro e w6 ⟨rfl, hHy⟩))
                    all_goals
                      go_wp2
                      go_ret
                      exact ⟨rfl, hB5.out _ hHy⟩
            · have ht : t = false := hF.out (fun h => hri (by rw [hx'.out]; exact okl_right h hkl'.out))
              have hd : decide (right x) = false := decide_eq_false hri
              rw [hd] at hr
              subst ht
              clear hd
              go_wp2_with fail
              rw [← hw5'.out, ← hcb'.out]
              obtain ⟨c0, c1⟩ := hc5.out _ (Below.refl _ _)
              first
                | (go_region_with (first | (go_at_call 28; refine (hr.out _ d5.out).mono ?_; rintro e w' ⟨rfl, hHx⟩)))
                | fail "region"
              all_goals
                go_wp2
                go_ret
                exact ⟨rfl, hB5.out _ hHx⟩
          · have ek : k = n := by omega
            have ht : t = true := hT.out (by have h := S.out.okl; rw [ek, hn'.out, List.take_length] at h; exact h)
            subst ht
            have q1 : ¬ ((k : Int) < (n : Int)) := by omega
            go_wp2
            go_ret
            exact ⟨rfl, S.out.below⟩
end Go.Proofs.Ytcoddeemfdnjpaa.Free
