/- The walk of slices.Insert at free pages: one element more. -/
import Derived.Test.YtcoddeemfdnjpaaFreeRow
namespace Go.Proofs.Ytcoddeemfdnjpaa.Free
open Go.RowKit Go.Lib Go.Proofs.Ytcoddeemfdnjpaa.Fn
theorem over_not (w : World) (vb voff vc g o lb cb kA kB : Nat) (m : Nat) (hne : vb ≠ g) (hsa : w.shape? vb = some (28, kA)) (hsb : w.shape? g = some (28, kB)) (hkB : kB ≠ 0) (hfa : ∀ j, w.frozen? ⟨vb, j, none⟩ = false) :
    (callFunc 42 #[.slice (some ⟨vb, voff, none⟩) m vc, .slice (some ⟨g, o, none⟩) lb cb]).run Try.prog w = .ok (.value (.bool false)) w := by
  rw [run_callFunc_extern Try.func42 (by kernel_rfl) (by kernel_rfl) (by kernel_rfl) (e := Extern.SlicesOverlaps.overlaps #[39, 39] #[4]) (by kernel_rfl),
      Lib.run_overlaps_apart w 39 4 28 Try.underlying39 2 (fun w => by simp [sizeOf, typeInfo]; kernel_rfl) ⟨vb, voff, none⟩ ⟨g, o, none⟩ m vc lb cb hne 28 28 kA kB hsa hsb hkB (hfa _) (hfa _)]
  rfl
set_option maxHeartbeats 4000000 in
set_option maxRecDepth 100000 in
theorem insert_shift (w : World) (g off c i vb voff vc : Nat) (l : List S28) (f : S28) (hi : i < l.length) (hroom : l.length + 1 ≤ c) (R : Row w g off c l) (hvb : vb ≠ g)
    (h0 : w.cell? ⟨vb, voff, none⟩ = some (.int .i64 f.f0)) (h1 : w.cell? ⟨vb, voff + 1, none⟩ = some (.int .i64 f.f1)) (hsv : ∃ k, w.shape? vb = some (28, k)) (hfv : ∀ j, w.frozen? ⟨vb, j, none⟩ = false) :
    Calls Try.prog 31 #[.slice (some ⟨g, off, none⟩) l.length c, .int .i64 (i : Int), .slice (some ⟨vb, voff, none⟩) 1 vc] w fun e w' =>
      e = .returned (.slice (some ⟨g, off, none⟩) (l.length + 1) c) ∧ w' = (w.drew.setCells g (off + (i + 1) * 2) (flat (l.drop i))).setCells g (off + i * 2) (flat [f]) := by
  obtain ⟨kA, hsA⟩ := hsv
  obtain ⟨kB, hsB, hkB0⟩ := R.shape
  have hkB := hkB0 (by omega)
  clear hkB0
  have hov : ∀ o lb cb, (callFunc 42 #[.slice (some ⟨vb, voff, none⟩) 1 vc, .slice (some ⟨g, o, none⟩) lb cb]).run Try.prog w = .ok (.value (.bool false)) w := fun o lb cb => over_not w vb voff vc g o lb cb kA kB 1 hvb hsA hsB hkB hfv
  have hsz : (Try.prog.info? 28).map (·.size) = some 2 := by kernel_rfl
  have hn : Hid (l.length = l.length) := rfl
  have hc63 := R.big
  obtain ⟨n, en⟩ : ∃ n, l.length = n := ⟨_, rfl⟩
  rw [en] at hi hroom ⊢
  have hdl : (flat (l.drop i)).length = (n - i) * 2 := by rw [flat_length, List.length_drop, en]
  have hcp1 : ∀ ty dc sc, (Builtin.copy_ #[39, 39] ty #[.slice (some ⟨g, off + (i + 1) * 2, none⟩) (n - i) dc, .slice (some ⟨g, off + i * 2, none⟩) (n + 1 - i) sc]).run Try.prog w.drew = .ok (goInt (Nat.min (n + 1 - i) (n - i))) (w.drew.setCells g (off + (i + 1) * 2) (flat (l.drop i))) := fun ty dc sc =>
    run_copy_sz 2 w.drew _ _ ty 28 g (off + (i + 1) * 2) (n - i) dc ⟨g, off + i * 2, none⟩ (n + 1 - i) sc (flat (l.drop i)) Try.underlying39 hsz (by rw [hdl]; simp only [Nat.min_def]; split <;> omega)
      (fun j v hj => by
        rw [Addr.add_lit, Nat.add_assoc]
        rw [flat_drop, List.getElem?_drop] at hj
        exact R.cells _ v hj)
      (fun j hj => by rw [Nat.add_assoc]; exact R.here _ (by omega)) (fun j hj => R.froz _) (flat_one _)
  obtain ⟨W1, hW1⟩ : ∃ W1, W1 = w.drew.setCells g (off + (i + 1) * 2) (flat (l.drop i)) := ⟨_, rfl⟩
  have hsp1 : ∀ k, k < c * 2 → (W1.cell? ⟨g, off + k, none⟩).isSome = true := fun k hk => by
    rw [hW1]
    exact isSome_setCells g _ _ _ (fun j hj => by rw [Nat.add_assoc]; exact R.here _ (by omega)) _ (R.here k hk)
  have hcp2 : ∀ (W : World), (∀ x, W.cell? x = W1.cell? x) → (∀ x, W.frozen? x = W1.frozen? x) → ∀ ty dc, (Builtin.copy_ #[39, 39] ty #[.slice (some ⟨g, off + i * 2, none⟩) (n + 1 - i) dc, .slice (some ⟨vb, voff, none⟩) 1 vc]).run Try.prog W = .ok (goInt 1) (W.setCells g (off + i * 2) (flat [f])) := fun W hWc hWf ty dc => by
    have h := run_copy_sz (P := Try.prog) 2 W 39 39 ty 28 g (off + i * 2) (n + 1 - i) dc ⟨vb, voff, none⟩ 1 vc (flat [f]) Try.underlying39 hsz (by rw [flat_length]; simp only [Nat.min_def]; split <;> simp <;> omega)
      (fun j v hj => by
        rw [Addr.add_lit, hWc, hW1, World.cell?_setCells_out g _ _ _ _ (fun h _ => absurd h hvb)]
        match j, hj with
        | 0, hj => simp only [flat] at hj; cases hj; exact h0
        | 1, hj => simp only [flat] at hj; cases hj; exact h1
        | j + 2, hj => simp [flat] at hj)
      (fun j hj => by rw [hWc, Nat.add_assoc]; exact hsp1 _ (by simp [flat] at hj; omega)) (fun j hj => by rw [hWf, hW1, World.frozen?_setCells]; exact R.froz _) (flat_one _)
    rw [show Nat.min 1 (n + 1 - i) = 1 by simp only [Nat.min_def]; split <;> omega] at h
    exact h
  rw [← hW1] at hcp1 ⊢
  have hw1 : IntKind.i64.wrap ((i : Int) + 1) = (i : Int) + 1 := by rw [IntKind.wrap_i64]; omega
  have hw2 : IntKind.i64.wrap ((n : Int) + 1) = (n : Int) + 1 := by rw [IntKind.wrap_i64]; omega
  have hb1 : (0 : Int) ≤ (i : Int) + 1 := by omega
  have hin : i ≤ n := by omega
  have htn : ((i : Int) + 1).toNat = i + 1 := by omega
  have htn2 : ((n : Int) + 1).toNat = n + 1 := by omega
  have hb2 : ¬ (c = i + 1) := by omega
  have hb3 : (i : Int) ≤ (n : Int) + 1 := by omega
  have hb4 : ¬ (c = i) := by omega
  have hz2 : ¬ ((i : Int) = (n : Int)) := by omega
  clear en R hW1 hsp1 hdl hn h0 h1 hsA hsB hfv
  have mixed : Try.prog.follows Departure.mixedOrders = true := by kernel_rfl
  go_enter Try.func31, Try.ntmps31
  go_wp2_with (simp only [hov])
  go_region_law_o (refine step_copy_runI rfl _ _ 39 39 rfl _ _ (by simp [Act.eval, Act.put]) (by simp [Act.eval, Act.put]) (hcp1 _ _ _) ?_)
  go_wp2_with (at_builtin; refine wpList_copy_runI _ rfl _ _ 39 39 rfl _ _ rfl rfl (hcp2 _ (fun _ => rfl) (fun _ => rfl) _ _) ?_)
  go_ret
  exact ⟨rfl, rfl⟩

/-- the variadic argument of one element -/
theorem src_one (w : World) (vb voff vc : Nat) (f : S28) (h0 : w.cell? ⟨vb, voff, none⟩ = some (.int .i64 f.f0)) (h1 : w.cell? ⟨vb, voff + 1, none⟩ = some (.int .i64 f.f1)) :
    Src Try.prog 2 39 (.slice (some ⟨vb, voff, none⟩) 1 vc) 1 (flat [f]) w :=
  Src.ofSlice w Try.underlying39 ⟨vb, voff, none⟩ 1 vc (flat [f]) (by simp [flat]) (fun j u hj => by
    rw [Addr.add_lit]
    match j, hj with
    | 0, hj => simp only [flat] at hj; cases hj; exact h0
    | 1, hj => simp only [flat] at hj; cases hj; exact h1
    | j + 2, hj => simp [flat] at hj) (flat_one _)
set_option maxHeartbeats 4000000 in
set_option maxRecDepth 100000 in
theorem insert_room (w : World) (g off c vb voff vc : Nat) (l : List S28) (f : S28) (hroom : l.length + 1 ≤ c) (R : Row w g off c l)
    (h0 : w.cell? ⟨vb, voff, none⟩ = some (.int .i64 f.f0)) (h1 : w.cell? ⟨vb, voff + 1, none⟩ = some (.int .i64 f.f1)) :
    Calls Try.prog 31 #[.slice (some ⟨g, off, none⟩) l.length c, .int .i64 (l.length : Int), .slice (some ⟨vb, voff, none⟩) 1 vc] w fun e w' =>
      e = .returned (.slice (some ⟨g, off, none⟩) (l.length + 1) c) ∧ w' = w.setCells g (off + l.length * 2) (flat [f]) := by
  obtain ⟨i0, hi0, hz0, hzs, hzb⟩ := info_parts info28
  have hrun : ∀ ty, (Builtin.append_ #[39, 39] ty #[.slice (some ⟨g, off, none⟩) l.length c, .slice (some ⟨vb, voff, none⟩) 1 vc]).run Try.prog w = .ok (.slice (some ⟨g, off, none⟩) (l.length + 1) c) (w.setCells g (off + l.length * 2) (flat [f])) := fun ty => by
    have h := run_append_room_src (P := Try.prog) w 39 39 ty 28 i0 Try.underlying39 hi0 g off l.length c (.slice (some ⟨vb, voff, none⟩) 1 vc) 1 (flat [f]) (by rw [hzs]; exact src_one w vb voff vc f h0 h1) hroom
      (fun j hj => by rw [hzs, Nat.add_assoc]; exact R.here _ (by simp [flat] at hj; omega)) (fun j hj => R.froz _)
    rw [hzs] at h
    exact h
  have hc63 := R.big
  obtain ⟨n, en⟩ : ∃ n, l.length = n := ⟨_, rfl⟩
  rw [en] at hrun hroom ⊢
  clear en R h0 h1 hi0 hz0 hzs hzb
  have mixed : Try.prog.follows Departure.mixedOrders = true := by kernel_rfl
  go_enter Try.func31, Try.ntmps31
  go_wp2_with (at_builtin; refine Lib.wpList_append_run _ rfl _ _ _ _ rfl _ _ rfl rfl _ _ (hrun _) ?_)
  go_ret
  exact ⟨rfl, rfl⟩
set_option maxHeartbeats 4000000 in
set_option maxRecDepth 100000 in
theorem insert_end_grow (w : World) (base : Option Addr) (c vb voff vc : Nat) (l : List S28) (f : S28) (hn : l.length < 100000) (hnc : l.length ≤ c) (hroom : c < l.length + 1) (hnil : base = none → l = [] ∧ c = 0)
    (hcs : ∀ a, base = some a → ∀ j v, (flat l)[j]? = some v → w.cell? (a.add j) = some v)
    (h0 : w.cell? ⟨vb, voff, none⟩ = some (.int .i64 f.f0)) (h1 : w.cell? ⟨vb, voff + 1, none⟩ = some (.int .i64 f.f1)) :
    Calls Try.prog 31 #[.slice base l.length c, .int .i64 (l.length : Int), .slice (some ⟨vb, voff, none⟩) 1 vc] w fun e w' =>
      e = .returned (.slice (some ⟨w.heap.size, 0, none⟩) (l.length + 1) (grownCap w (l.length + 1) c 28)) ∧
      w' = w.drew.alloc (.cells ((flat l ++ flat [f]).toArray ++ Builtin.zeroCells (Value.agg #[.int .i64 0, .int .i64 0]).cells (grownCap w (l.length + 1) c 28 - (l.length + 1))) 28) := by
  obtain ⟨i0, hi0, hz0, hzs, hzb⟩ := info_parts info28
  have hold : (Builtin.firstCells i0.size l.length (.slice base l.length c)).run Try.prog w.drew = .ok (flat l).toArray w.drew := by
    rw [hzs]
    cases base with
    | none =>
      obtain ⟨rfl, rfl⟩ := hnil rfl
      exact run_firstCells_none w.drew 2 0 0 0
    | some a => exact run_firstCells_some w.drew 2 l.length a l.length c (flat l) (flat_length l) (fun j v hj => hcs a rfl j v hj)
  have hrun : ∀ ty, (Builtin.append_ #[39, 39] ty #[.slice base l.length c, .slice (some ⟨vb, voff, none⟩) 1 vc]).run Try.prog w = _ := fun ty =>
    run_append_grow_src w 39 39 ty 28 i0 _ Try.underlying39 hi0 hz0 base l.length c (flat l) hold _ 1 (flat [f]) (by rw [hzs]; exact src_one w vb voff vc f h0 h1) hroom (by omega) (by rw [hzb]; exact growslice_fits hroom (by omega))
  have mixed : Try.prog.follows Departure.mixedOrders = true := by kernel_rfl
  clear hold hi0 hz0 hzs hzb hcs
  cases base with
  | none =>
    obtain ⟨rfl, rfl⟩ := hnil rfl
    clear hnil h0 h1 
    go_enter Try.func31, Try.ntmps31
    go_wp2_with (at_builtin; refine Lib.wpList_append_run _ rfl _ _ _ _ rfl _ _ rfl rfl _ _ (hrun _) ?_)
    go_ret
    exact ⟨rfl, rfl⟩
  | some a =>
    obtain ⟨ab, ao, asp⟩ := a
    obtain ⟨n, en⟩ : ∃ n, l.length = n := ⟨_, rfl⟩
    rw [en] at hrun hroom hnc hn ⊢
    clear hnil h0 h1 en
    go_enter Try.func31, Try.ntmps31
    go_wp2_with (at_builtin; refine Lib.wpList_append_run _ rfl _ _ _ _ rfl _ _ rfl rfl _ _ (hrun _) ?_)
    all_goals (go_ret; exact ⟨rfl, rfl⟩)
end Go.Proofs.Ytcoddeemfdnjpaa.Free
