/- The walk of FreeOnce. -/
import Derived.Test.YtcoddeemfdnjpaaFreeAwake
import Derived.Test.YtcoddeemfdnjpaaFreeOpen
set_option linter.unusedVariables false
namespace Go.Proofs.Ytcoddeemfdnjpaa.Free
open Go.RowKit Go.Lib Go.Proofs.Ytcoddeemfdnjpaa.Fn
/-- by which transaction a page became free; -1: it is not -/
def byOf : List S28 → Nat → Int
  | [], _ => -1
  | x :: r, p => if x.f1 = (p : Int) then x.f0 else byOf r p
/-- the table of pages -/
def ByAt (w : World) (y : Nat) (l : List S28) : Prop := (∀ p, p < 512 → w.cell? ⟨y, p, none⟩ = some (.int .i64 (byOf l p))) ∧ ∀ j, w.frozen? ⟨y, j, none⟩ = false
theorem madeSome (w : World) (p : Nat) (hp : p < 512) : ∃ u, (w.alloc (.cells (madeCells #[.int .i64 0] 512) 3)).cell? ⟨w.heap.size, p, none⟩ = some u := by
  rw [World.cell?_alloc_at _ _ _ _ rfl]
  have : p < (madeCells #[.int .i64 0] 512).size := by simp [madeCells]; omega
  exact ⟨_, Array.getElem?_eq_getElem this⟩
/-- so far the table is laid -/
def Laid (w1 : World) (y k : Nat) (wr : World) : Prop :=
  w1.grownBy wr (some y) ∧ (∀ p, p < k → wr.cell? ⟨y, p, none⟩ = some (.int .i64 (-1))) ∧ (∀ p, p < 512 → ∃ u, wr.cell? ⟨y, p, none⟩ = some u) ∧ ∀ j, wr.frozen? ⟨y, j, none⟩ = false
theorem Laid.step {w1 wr : World} {y k : Nat} (h : Laid w1 y k wr) (hk : k < 512) : Laid w1 y (k + 1) (wr.setCell ⟨y, k, none⟩ (.int .i64 (-1))) := by
  obtain ⟨h1, h2, h3, h4⟩ := h
  obtain ⟨u, hu⟩ := h3 k hk
  refine ⟨grown_trans h1 ⟨rfl, rfl, rfl, by simp [World.setCell], fun i hi hne => Below.heap_setCell _ _ _ _ (fun e => hne (by rw [e]))⟩, fun p hp => ?_, fun p hp => ?_, fun j => by rw [World.frozen?_setCell]; exact h4 j⟩
  · by_cases e : p = k
    · subst e; exact World.cell?_setCell_same _ _ _ hu
    · rw [cell_setCell_ne _ _ _ _ _ e]; exact h2 p (by omega)
  · by_cases e : p = k
    · subst e; exact ⟨_, World.cell?_setCell_same _ _ _ hu⟩
    · rw [cell_setCell_ne _ _ _ _ _ e]; exact h3 p hp
/-- where the play stands -/
structure OnceSt (w : World) (b y : Nat) (l : List S28) (wr : World) : Prop where
  below : Below w.heap.size w wr
  list : ListAt wr b (fun k => y < k) l
  tab : ByAt wr y l
  lt : y < wr.heap.size
theorem OnceSt.kept {w wr w' : World} {b y : Nat} {l l' : List S28} (h : OnceSt w b y l wr) (hb : w.heap.size ≤ b) (hby : b < y) (K : Kept (fun k => y < k) b wr w') (hl : ListAt w' b (fun k => y < k) l') :
    Below w.heap.size w w' ∧ ListAt w' b (fun k => y < k) l' ∧ ByAt w' y l ∧ y < w'.heap.size := by
  have hy := K.block y h.lt (by omega) (Nat.lt_irrefl _)
  exact ⟨kept_below h.below K hb (fun j hj => by omega), hl, ⟨fun p hp => (World.cell?_of_block (a := ⟨y, p, none⟩) hy).trans (h.tab.1 p hp), fun j => (World.frozen?_of_block (a := ⟨y, j, none⟩) hy).trans (h.tab.2 j)⟩, Nat.lt_of_lt_of_le h.lt K.size⟩
theorem once_store {w w' : World} {b y p : Nat} {l l' : List S28} {v : Int} (hby : b < y) (hwy : w.heap.size ≤ y) (h : Below w.heap.size w w' ∧ ListAt w' b (fun k => y < k) l' ∧ ByAt w' y l ∧ y < w'.heap.size) (hp : p < 512)
    (hu : ∀ q, q < 512 → byOf l' q = if q = p then v else byOf l q) : OnceSt w b y l' (w'.setCell ⟨y, p, none⟩ (.int .i64 v)) := by
  obtain ⟨h1, h2, h3, h4⟩ := h
  refine ⟨h1.setCell (p := ⟨y, p, none⟩) hwy _, h2.keep (Below.heap_setCell _ _ _ _ (by show b ≠ y; omega)) (fun k hk _ => ⟨Below.heap_setCell _ _ _ _ (by show k ≠ y; omega), hk⟩) h2.notok, ⟨fun q hq => ?_, fun j => by rw [World.frozen?_setCell]; exact h3.2 j⟩, by simpa [World.setCell] using h4⟩
  rw [hu q hq]
  by_cases e : q = p
  · subst e
    rw [if_pos rfl]
    exact World.cell?_setCell_same _ _ _ (h3.1 q hq)
  · rw [if_neg e, cell_setCell_ne _ _ _ _ _ e]
    exact h3.1 q hq
theorem quad_drew {w w' : World} {b y : Nat} {l l' : List S28} (n : Nat) (h : Below w.heap.size w w' ∧ ListAt w' b (fun k => y < k) l' ∧ ByAt w' y l ∧ y < w'.heap.size) :
    Below w.heap.size w (w'.drewN n) ∧ ListAt (w'.drewN n) b (fun k => y < k) l' ∧ ByAt (w'.drewN n) y l ∧ y < (w'.drewN n).heap.size :=
  ⟨below_drewN n h.1, h.2.1.keep rfl (fun k hk _ => ⟨rfl, hk⟩) h.2.1.notok, h.2.2.1, h.2.2.2⟩
theorem quad_same {w w' : World} {b y : Nat} {l : List S28} (h : Below w.heap.size w w' ∧ ListAt w' b (fun k => y < k) l ∧ ByAt w' y l ∧ y < w'.heap.size) : OnceSt w b y l w' := ⟨h.1, h.2.1, h.2.2.1, h.2.2.2⟩
theorem OnceSt.drew {w wr : World} {b y : Nat} {l : List S28} (h : OnceSt w b y l wr) : OnceSt w b y l wr.drew :=
  ⟨h.below.drew, h.list.keep rfl (fun k hk _ => ⟨rfl, hk⟩) h.list.notok, h.tab, h.lt⟩
theorem byOf_none {l : List S28} {p : Nat} (h : ∀ x ∈ l, x.f1 ≠ (p : Int)) : byOf l p = -1 := by
  induction l with
  | nil => rfl
  | cons x r ih => rw [byOf, if_neg (h x List.mem_cons_self), ih (fun y hy => h y (List.mem_cons_of_mem _ hy))]
theorem byOf_append (a r : List S28) (p : Nat) : byOf (a ++ r) p = if (∃ x ∈ a, x.f1 = (p : Int)) then byOf a p else byOf r p := by
  induction a with
  | nil => simp
  | cons x t ih =>
    rw [List.cons_append, byOf, byOf, ih]
    by_cases h : x.f1 = (p : Int)
    · simp [h]
    · simp [h]
theorem byOf_ins {l : List S28} {i : Nat} {f : S28} {p : Nat} (hp : f.f1 = (p : Int)) (hne : ∀ x ∈ l, x.f1 ≠ f.f1) (q : Nat) : byOf (ins l i f) q = if q = p then f.f0 else byOf l q := by
  unfold ins
  rw [byOf_append, byOf]
  by_cases e : q = p
  · subst e
    rw [if_pos rfl, if_neg (by rintro ⟨x, hx, h⟩; exact hne x (List.mem_of_mem_take hx) (by rw [h, hp])), if_pos hp]
  · have hq : ¬ (f.f1 = (q : Int)) := by omega
    rw [if_neg e, if_neg hq, ← byOf_append, List.take_append_drop]
theorem byOf_add {l : List S28} {f : S28} (h : addE l f = 0) : right f ∧ ∀ q : Nat, byOf (addL l f) q = if q = f.f1.toNat then f.f0 else byOf l q := by
  unfold addE at h
  by_cases hr : right f
  · rw [if_pos hr] at h
    have hin : isIn l f.f1.toNat = false := by
      cases hc : isIn l f.f1.toNat with
      | false => rfl
      | true => rw [hc] at h; simp at h
    refine ⟨hr, fun q => ?_⟩
    rw [addL, if_pos ⟨hr, hin⟩]
    have hp : f.f1 = (f.f1.toNat : Int) := by unfold right at hr; omega
    refine byOf_ins hp (fun x hx e => ?_) q
    have : isIn l f.f1.toNat = true := isIn_iff.2 ⟨x, hx, by rw [e]; exact hp⟩
    rw [hin] at this
    cases this
  · rw [if_neg hr] at h
    cases h
theorem addL_same {l : List S28} {f : S28} (h : addE l f ≠ 0) : addL l f = l := by
  unfold addE at h
  unfold addL
  by_cases hr : right f
  · rw [if_pos hr] at h
    cases hc : isIn l f.f1.toNat with
    | false => rw [hc] at h; simp at h
    | true => rw [if_neg (by simp)]
  · rw [if_neg (fun h => hr h.1)]
theorem take_same {l : List S28} {n : Int} (h : takeB l n = false) : takeL l n = l := by
  cases l with
  | nil => rfl
  | cons x r => simp [takeB] at h; simp [takeL]; omega
theorem take_true {l : List S28} {n : Int} (hr : ∀ x ∈ l, right x) (ha : l.Pairwise (fun x y => x.f1 ≠ y.f1)) (h : takeB l n = true) :
    ∃ p : Nat, takeP l n = (p : Int) ∧ 1 ≤ p ∧ p < 512 ∧ 0 ≤ byOf l p ∧ byOf l p ≤ n ∧ ∀ q : Nat, byOf (takeL l n) q = if q = p then -1 else byOf l q := by
  cases l with
  | nil => cases h
  | cons x r =>
    have hx : x.f0 ≤ n := by simpa [takeB] using h
    have hrx := hr x List.mem_cons_self
    unfold right at hrx
    obtain ⟨h1, _⟩ := List.pairwise_cons.1 ha
    refine ⟨x.f1.toNat, by simp [takeP, hx]; omega, by omega, by omega, ?_, ?_, fun q => ?_⟩
    · rw [byOf, if_pos (by omega)]; omega
    · rw [byOf, if_pos (by omega)]; exact hx
    · simp only [takeL, hx, if_true]
      by_cases e : q = x.f1.toNat
      · rw [if_pos e]
        exact byOf_none (fun z hz hq => h1 z hz (by omega))
      · rw [if_neg e, byOf, if_neg (by omega)]
set_option maxHeartbeats 1600000 in
set_option maxRecDepth 100000 in
theorem once_walk (w : World) (A : Option Addr) (c : Nat) (L : List Act) (hc : L.length ≤ c) (hA : Acts w A L) : Calls Try.prog 3 #[.slice A L.length c] w fun e w' => e = .returned (.bool true) ∧ Below w.heap.size w w' := by
  have ha := Lib.hid (awake_any w)
  have hnew := Lib.hid new_any
  obtain ⟨i0, hi0, hz0, hzs, hzb⟩ := info_parts info3
  go_enter Try.func3, Try.ntmps3
  go_wp2_with fail
  refine ha.out.mono ?_
  rintro e w1 ⟨rfl, hb1⟩
  have B1 := Lib.hid hb1
  clear hb1
  go_wp2_with fail
  refine (hnew.out _).mono ?_
  rintro e w2 ⟨rfl, hw2⟩
  have hw2' := Lib.hid hw2
  have z2 : w2.heap.size = w1.heap.size + 1 := by rw [hw2]; simp
  clear hw2
  have B2 := Lib.hid (show Below w.heap.size w w2 by rw [hw2'.out]; exact B1.out.alloc B1.out.size _)
  have l2 := Lib.hid (show ListAt w2 w1.heap.size (fun k => w2.heap.size < k) [] by
    have h := new_list w1 (fun k => w2.heap.size < k) (by show ¬ (w2.heap.size < w1.heap.size); omega)
    rw [← hw2'.out] at h
    exact h)
  have hsb : w.heap.size ≤ w1.heap.size := B1.out.size
  clear hw2'
  obtain ⟨b, hb⟩ : ∃ b, b = w1.heap.size := ⟨_, rfl⟩
  rw [← hb] at l2 z2 hsb ⊢
  have z2' := Lib.hid z2
  clear hb B1 z2
  go_wp2_with (refine wpList_make_row _ rfl _ _ 26 rfl 3 i0 (.int .i64 0) Try.underlying26 hi0 hz0 hzs rfl .i64 .i64 512 rfl rfl (by rw [hzb]; decide) (by decide) ?_)
  clear hi0 hz0 hzs hzb
  have z2 := z2'.out
  obtain ⟨w3, hw3⟩ : ∃ w3, w3 = w2.alloc (.cells (madeCells #[.int .i64 0] 512) 3) := ⟨_, rfl⟩
  obtain ⟨y, hy⟩ : ∃ y, y = w2.heap.size := ⟨_, rfl⟩
  have d0 := Lib.hid (show Laid w3 y 0 w3 from ⟨⟨rfl, rfl, rfl, Nat.le_refl _, fun _ _ _ => rfl⟩, fun p hp => absurd hp (Nat.not_lt_zero _), fun p hp => by rw [hw3, hy]; exact madeSome w2 p hp, fun j => by rw [hw3, hy]; exact World.frozen?_alloc_at _ _ _ _ rfl⟩)
  have B3 := Lib.hid (show Below w.heap.size w w3 by rw [hw3]; exact B2.out.alloc B2.out.size _)
  have l3 := Lib.hid (show ListAt w3 b (fun k => y < k) [] by
    rw [hw3, hy]
    exact l2.out.keep (Below.heap_alloc _ _ _ (by omega)) (fun k hk hlt => by have : w2.heap.size < k := hk; omega) l2.out.notok)
  have z3 : y < w3.heap.size := by rw [hw3, hy]; simp
  have hby : b < y := by omega
  have hwy : w.heap.size ≤ y := by omega
  rw [← hw3, ← hy]
  clear hw3 hy B2 l2 z2 z2'
  go_wp2_with fail
  go_loopw [5] (fun i wr => ∃ k : Nat, k ≤ 512 ∧ i = .int .i64 k ∧ Hid (Laid w3 y k wr)) (fun i _ => 512 - (RowKit.intOf i).toNat)
  case atStart => exact ⟨0, by omega, rfl, d0.out⟩
  case round =>
    obtain ⟨k, hk, rfl, hL⟩ := hrel
    by_cases hlt : k < 512
    · have hlt1 : (k : Int) < 512 := by omega
      obtain ⟨u, hu⟩ := hL.out.2.2.1 k hlt
      have hfz := hL.out.2.2.2 k
      have hS := Lib.hid (hL.out.step hlt)
      go_wp2
      go_roundw
      case rel => exact ⟨k + 1, by omega, by go_num, hS.out⟩
      case measure => simp [RowKit.intOf]; omega
    · have ek : k = 512 := by omega
      subst ek
      have hS0 := Lib.hid (show OnceSt w b y [] wr from ⟨⟨hL.out.1.os.trans B3.out.os, hL.out.1.tape.trans B3.out.tape, hL.out.1.output.trans B3.out.output, Nat.le_trans B3.out.size hL.out.1.size, fun j hj => (hL.out.1.block j (by omega) (by simp; omega)).trans (B3.out.block j hj)⟩,
        l3.out.keep (hL.out.1.block b (by omega) (by simp; omega)) (fun j hj hlt => ⟨hL.out.1.block j hlt (by have : y < j := hj; simp; omega), hj⟩) l3.out.notok, ⟨fun p hp => hL.out.2.1 p hp, hL.out.2.2.2⟩, Nat.lt_of_lt_of_le z3 hL.out.1.size⟩)
      clear hL hk hlt
      go_wp2_with fail
      clear d0 B3 l3 z3
      have hadd := Lib.hid (fun (l : List S28) (f : S28) (u : World) (hu : ListAt u b (fun k => y < k) l) (hlt : y < u.heap.size) => add_any u (fun k => y < k) b l f hu (fun k hk => by show y < k; omega))
      have htake := Lib.hid (fun (l : List S28) (n : Int) (u : World) (hu : ListAt u b (fun k => y < k) l) => take_any u (fun k => y < k) b l n hu)
      obtain ⟨hLn, hAc⟩ := hA
      obtain ⟨n, hn⟩ : ∃ n, n = L.length := ⟨_, rfl⟩
      have hn' := Lib.hid hn
      rw [← hn] at hc hLn ⊢
      clear hn
      go_loopw [6, 7, 8] (fun i _ _ wr => ∃ (k : Nat) (l : List S28), k ≤ 80 ∧ i = .int .i64 k ∧ Hid (OnceSt w b y l wr)) (fun i _ _ _ => 80 - (RowKit.intOf i).toNat)
      case atStart => exact ⟨0, [], by omega, rfl, hS0.out⟩
      case round =>
        clear hS0
        obtain ⟨k, l, hk, rfl, hS⟩ := hrel
        by_cases hlt : k < n
        · by_cases h80 : k < 80
          · have hacts := hAc.resolve_left (fun e => by rw [hn'.out, e] at hlt; simp at hlt)
            obtain ⟨g, off, rfl, hcells⟩ := hacts
            have hk' : k < L.length := by rw [← hn'.out]; exact hlt
            obtain ⟨a0, a1, a2, a3⟩ := hcells k hk'
            obtain ⟨x, hx⟩ : ∃ x, x = L[k] := ⟨_, rfl⟩
            rw [← hx] at a0 a1 a2 a3
            clear hx hcells hAc hk'
            have hg : g < w.heap.size := block_lt_of_cell a0
            have hCb := Lib.hid (fun (u : World) (hu : Below w.heap.size w u) => (⟨(hu.cell (p := ⟨g, off + k * 4, none⟩) hg).trans a0, (hu.cell (p := ⟨g, off + k * 4 + 1, none⟩) hg).trans a1, (hu.cell (p := ⟨g, off + k * 4 + 2, none⟩) hg).trans a2, (hu.cell (p := ⟨g, off + k * 4 + 3, none⟩) hg).trans a3⟩ :
              u.cell? ⟨g, off + k * 4, none⟩ = some (.int .i64 x.k) ∧ u.cell? ⟨g, off + k * 4 + 1, none⟩ = some (.int .i64 x.f.f0) ∧ u.cell? ⟨g, off + k * 4 + 2, none⟩ = some (.int .i64 x.f.f1) ∧ u.cell? ⟨g, off + k * 4 + 3, none⟩ = some (.int .i64 x.n)))
            clear a0 a1 a2 a3
            obtain ⟨r0, r1, r2, r3⟩ := hCb.out _ hS.out.below
            have q1 : (k : Int) < (n : Int) := by omega
            have q2 : (k : Int) < 80 := by omega
            by_cases hkind : x.k = 1
            · go_wp2_with fail
              refine (hadd.out l x.f _ hS.out.list hS.out.lt).mono ?_
              rintro e w4 ⟨rfl, hl4, hK4⟩
              have Q4 := Lib.hid (hS.out.kept hsb hby hK4 hl4)
              clear hl4 hK4 r0 r1 r2 r3
              by_cases he : addE l x.f = 0
              · obtain ⟨hr, hu⟩ := byOf_add he
                rw [he]
                obtain ⟨r0, r1, r2, r3⟩ := hCb.out _ Q4.out.1
                obtain ⟨p, hp⟩ : ∃ p : Nat, x.f.f1 = (p : Int) := ⟨x.f.f1.toNat, by unfold right at hr; omega⟩
                have hp5 : p < 512 := by unfold right at hr; omega
                have hp6 : (p : Int) < 512 := by omega
                have hu' := Lib.hid (fun q (_ : q < 512) => (by rw [hu q, show x.f.f1.toNat = p by omega] : byOf (addL l x.f) q = if q = p then x.f.f0 else byOf l q))
                rw [hp] at r2
                have hby0 := Q4.out.2.2.1.1 p hp5
                have hbyf := Q4.out.2.2.1.2 p
                have hfin := Lib.hid (once_store hby hwy Q4.out hp5 hu'.out)
                have hfin2 := Lib.hid (hfin.out.drew)
                clear he hr hu hp r3 r0
                go_wp2_with fail
                go_region
                go_wp2
                refine ⟨?_, ?measure⟩
                iterate 84 (apply Exists.intro)
                refine ⟨?rel, rfl⟩
                case rel => exact ⟨k + 1, _, by omega, by go_num, hfin2.out⟩
                case measure => simp [RowKit.intOf]; omega
              · have hsame := addL_same he
                rw [hsame] at Q4
                have hfin := Lib.hid (quad_same Q4.out)
                clear hsame
                go_wp2
                refine ⟨?_, ?measure⟩
                iterate 84 (apply Exists.intro)
                refine ⟨?rel, rfl⟩
                case rel => exact ⟨k + 1, _, by omega, by go_num, hfin.out⟩
                case measure => simp [RowKit.intOf]; omega
            · go_wp2_with fail
              refine (htake.out l x.n _ hS.out.list).mono ?_
              rintro e w4 ⟨rfl, hl4, hK4⟩
              have Q4 := Lib.hid (hS.out.kept hsb hby hK4 hl4)
              clear hl4 hK4 r0 r1 r2 r3
              by_cases hB : takeB l x.n = true
              · obtain ⟨p, hp, hp1, hp5, hge, hle, hu⟩ := take_true hS.out.list.rights hS.out.list.apart hB
                rw [hB, hp]
                obtain ⟨r0, r1, r2, r3⟩ := hCb.out _ Q4.out.1
                have hu' := Lib.hid (fun q (_ : q < 512) => hu q)
                have hby0 := Q4.out.2.2.1.1 p hp5
                have hbyf := Q4.out.2.2.1.2 p
                have hfin := Lib.hid (fun nq => once_store hby hwy (quad_drew nq Q4.out) hp5 hu'.out)
                obtain ⟨t, ht⟩ : ∃ t, t = byOf l p := ⟨_, rfl⟩
                rw [← ht] at hby0 hge hle
                have s1 : decide ((p : Int) < 1) = false := decide_eq_false (by omega)
                have s2 : decide ((512 : Int) ≤ (p : Int)) = false := decide_eq_false (by omega)
                have s3 : decide (t < 0) = false := decide_eq_false (by omega)
                have s4 : decide (x.n < t) = false := decide_eq_false (by omega)
                have s5 : (p : Int) < 512 := by omega
                clear hB hp hu ht r0 r1 r2
                go_wp2_with fail
                go_quiet (fail)
                go_wp2
                refine ⟨?_, ?measure⟩
                iterate 84 (apply Exists.intro)
                refine ⟨?rel, rfl⟩
                case rel => exact ⟨k + 1, _, by omega, by go_num, hfin.out _⟩
                case measure => simp [RowKit.intOf]; omega
              · have hB' : takeB l x.n = false := by simpa using hB
                have hsame := take_same hB'
                rw [hsame] at Q4
                have hfin := Lib.hid (quad_same Q4.out)
                rw [hB']
                clear hsame hB
                go_wp2
                refine ⟨?_, ?measure⟩
                iterate 84 (apply Exists.intro)
                refine ⟨?rel, rfl⟩
                case rel => exact ⟨k + 1, _, by omega, by go_num, hfin.out⟩
                case measure => simp [RowKit.intOf]; omega
          · have q1 : (k : Int) < (n : Int) := by omega
            have q2 : ¬ ((k : Int) < 80) := by omega
            go_wp2
            go_ret
            exact ⟨rfl, hS.out.below⟩
        · have q1 : ¬ ((k : Int) < (n : Int)) := by omega
          go_wp2
          go_ret
          exact ⟨rfl, hS.out.below⟩
#print axioms once_walk
end Go.Proofs.Ytcoddeemfdnjpaa.Free
