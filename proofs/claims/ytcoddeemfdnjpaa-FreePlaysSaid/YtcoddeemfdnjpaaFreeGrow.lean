/- The walk of slices.Insert where a new row is made. -/
import Derived.Test.YtcoddeemfdnjpaaFreeInsert
import Derived.Lib.AppendZerosOnto
import Derived.Laws.NewBlocks
namespace Go.Proofs.Ytcoddeemfdnjpaa.Free
open Go.RowKit Go.Lib Go.Proofs.Ytcoddeemfdnjpaa.Fn
set_option maxHeartbeats 4000000 in
set_option maxRecDepth 100000 in
theorem insert_grow (w : World) (g off c i vb voff vc : Nat) (l : List S28) (f : S28) (hi : i < l.length) (hn : l.length < 100000) (hroom : c < l.length + 1) (R : Row w g off c l)
    (h0 : w.cell? ⟨vb, voff, none⟩ = some (.int .i64 f.f0)) (h1 : w.cell? ⟨vb, voff + 1, none⟩ = some (.int .i64 f.f1)) :
    Calls Try.prog 31 #[.slice (some ⟨g, off, none⟩) l.length c, .int .i64 (i : Int), .slice (some ⟨vb, voff, none⟩) 1 vc] w fun e w' =>
      e = .returned (.slice (some ⟨w.heap.size, 0, none⟩) (l.length + 1) (grownCap w (l.length + 1) c 28)) ∧
      w' = (((w.alloc (.cells ((flat (l.take i)).toArray ++ Builtin.zeroCells (Value.agg #[.int .i64 0, .int .i64 0]).cells (l.length + 1 - i) ++ Builtin.zeroCells (Value.agg #[.int .i64 0, .int .i64 0]).cells (grownCap w (l.length + 1) c 28 - (l.length + 1))) 28)).drew.setCells w.heap.size (i * 2) (flat [f])).drew).setCells w.heap.size ((i + 1) * 2) (flat (l.drop i)) := by
  obtain ⟨i0, hi0, hz0, hzs, hzb⟩ := info_parts info28
  have hsz : (Try.prog.info? 28).map (·.size) = some 2 := by rw [hi0]; simp [hzs]
  have hbw : g < w.heap.size := R.lt
  have hvw : vb < w.heap.size := block_lt_of_cell h0
  have hcells := R.cells
  have hnc := R.le
  clear R
  obtain ⟨n, en⟩ : ∃ n, l.length = n := ⟨_, rfl⟩
  rw [en] at hi hroom hn hnc ⊢
  have hkk : (n : Int) + 1 - (i : Int) = ((n + 1 - i : Nat) : Int) := by omega
  have hik : i + (n + 1 - i) = n + 1 := by omega
  have hold : (Builtin.firstCells i0.size i (.slice (some ⟨g, off, none⟩) i c)).run Try.prog w.drew = .ok (flat (l.take i)).toArray w.drew := by
    rw [hzs]
    exact run_firstCells_some w.drew 2 i ⟨g, off, none⟩ i c (flat (l.take i)) (by rw [flat_length, List.length_take, en]; congr 1; omega) (fun j v hj => by
      rw [Addr.add_lit]
      rw [flat_take, List.getElem?_take] at hj
      split at hj
      · exact hcells j v hj
      · cases hj)
  have hrz : ∀ ty, (Builtin.append_ #[39, 3] ty #[.slice (some ⟨g, off, none⟩) i c, .int .i64 ((n : Int) + 1 - (i : Int))]).run Try.prog w =
      .ok (.slice (some ⟨w.heap.size, 0, none⟩) (n + 1) (grownCap w (n + 1) c 28)) (w.drew.alloc (.cells ((flat (l.take i)).toArray ++ Builtin.zeroCells (Value.agg #[.int .i64 0, .int .i64 0]).cells (n + 1 - i) ++ Builtin.zeroCells (Value.agg #[.int .i64 0, .int .i64 0]).cells (grownCap w (n + 1) c 28 - (n + 1))) 28)) := fun ty => by
    have h := Lib.run_append_grow_zeros w 39 3 ty 28 i0 _ .i64 .i64 Try.underlying39 Try.underlying3 hi0 hz0 (some ⟨g, off, none⟩) i c (flat (l.take i)) hold (n + 1 - i) (by omega) (by omega) (by omega) (by omega) (by rw [hzb]; omega) (by rw [hzb, hik]; exact growslice_fits hroom (by omega))
    rw [hik] at h
    rw [hkk]
    exact h
  obtain ⟨G, hG⟩ : ∃ G, G = grownCap w (n + 1) c 28 := ⟨_, rfl⟩
  obtain ⟨ROW, hROW⟩ : ∃ ROW : Array Value, ROW = (flat (l.take i)).toArray ++ Builtin.zeroCells (Value.agg #[.int .i64 0, .int .i64 0]).cells (n + 1 - i) ++ Builtin.zeroCells (Value.agg #[.int .i64 0, .int .i64 0]).cells (G - (n + 1)) := ⟨_, rfl⟩
  rw [← hG] at hrz ⊢
  rw [← hROW] at hrz ⊢
  have hRl : (n + 1) * 2 ≤ ROW.size := by
    rw [hROW]
    simp [Builtin.zeroCells, Value.cells, flat_length, en]
    omega
  obtain ⟨W1, hW1⟩ : ∃ W1, W1 = w.drew.alloc (.cells ROW 28) := ⟨_, rfl⟩
  rw [← hW1] at hrz
  have hN : ∀ j, j < (n + 1) * 2 → (W1.cell? ⟨w.heap.size, j, none⟩).isSome = true := fun j hj => by
    rw [hW1, World.cell?_alloc_at (w := w.drew) ROW _ w.heap.size j rfl, Array.getElem?_eq_getElem (by omega)]; rfl
  have hNf : ∀ j, W1.frozen? ⟨w.heap.size, j, none⟩ = false := fun j => by rw [hW1]; exact World.frozen?_alloc_at (w := w.drew) ROW _ w.heap.size j rfl
  have hOb : ∀ j v, w.cell? ⟨g, j, none⟩ = some v → W1.cell? ⟨g, j, none⟩ = some v := fun j v h => by rw [hW1, World.cell?_alloc_past (w := w.drew) _ g j hbw]; exact h
  have hOv : ∀ j v, w.cell? ⟨vb, j, none⟩ = some v → W1.cell? ⟨vb, j, none⟩ = some v := fun j v h => by rw [hW1, World.cell?_alloc_past (w := w.drew) _ vb j hvw]; exact h
  have hcpA : ∀ (W : World), (∀ x, W.cell? x = W1.cell? x) → (∀ x, W.frozen? x = W1.frozen? x) → ∀ ty dc, (Builtin.copy_ #[39, 39] ty #[.slice (some ⟨w.heap.size, i * 2, none⟩) (n + 1 - i) dc, .slice (some ⟨vb, voff, none⟩) 1 vc]).run Try.prog W = .ok (goInt 1) (W.setCells w.heap.size (i * 2) (flat [f])) := fun W hWc hWf ty dc => by
    have h := run_copy_sz (P := Try.prog) 2 W 39 39 ty 28 w.heap.size (i * 2) (n + 1 - i) dc ⟨vb, voff, none⟩ 1 vc (flat [f]) Try.underlying39 hsz (by rw [flat_length]; simp only [Nat.min_def]; split <;> simp <;> omega)
      (fun j v hj => by
        rw [Addr.add_lit, hWc]
        match j, hj with
        | 0, hj => simp only [flat] at hj; cases hj; exact hOv _ _ h0
        | 1, hj => simp only [flat] at hj; cases hj; exact hOv _ _ h1
        | j + 2, hj => simp [flat] at hj)
      (fun j hj => by rw [hWc]; exact hN _ (by simp [flat] at hj; omega)) (fun j hj => by rw [hWf]; exact hNf _) (flat_one _)
    rw [show Nat.min 1 (n + 1 - i) = 1 by simp only [Nat.min_def]; split <;> omega] at h
    exact h
  have hGn : n + 1 ≤ G := by rw [hG]; exact grownCap_ge w _ _ _
  have hG63 : G ≤ 9223372036854775807 := by
    have := grownCap_le_maxLen w (n + 1) c 28 (by unfold maxLen; omega)
    rw [← hG] at this
    unfold maxLen at this
    omega
  have hGi : ¬ (G = i) := by omega
  have hGim : ¬ (G = i + 1) := by omega
  have hci : ¬ (c = i) := by omega
  have hbN : g ≠ w.heap.size := by omega
  have hdl : (flat (l.drop i)).length = (n - i) * 2 := by rw [flat_length, List.length_drop, en]
  have hcpB : ∀ (W : World), (∀ x, W.cell? x = (W1.setCells w.heap.size (i * 2) (flat [f])).cell? x) → (∀ x, W.frozen? x = (W1.setCells w.heap.size (i * 2) (flat [f])).frozen? x) → ∀ ty dc sc, (Builtin.copy_ #[39, 39] ty #[.slice (some ⟨w.heap.size, (i + 1) * 2, none⟩) (n - i) dc, .slice (some ⟨g, off + i * 2, none⟩) (n - i) sc]).run Try.prog W = .ok (goInt (Nat.min (n - i) (n - i))) (W.setCells w.heap.size ((i + 1) * 2) (flat (l.drop i))) := fun W hWc hWf ty dc sc =>
    run_copy_sz 2 W _ _ ty 28 w.heap.size ((i + 1) * 2) (n - i) dc ⟨g, off + i * 2, none⟩ (n - i) sc (flat (l.drop i)) Try.underlying39 hsz (by rw [hdl]; simp only [Nat.min_def]; split <;> omega)
      (fun j v hj => by
        rw [Addr.add_lit, hWc, World.cell?_setCells_out _ _ _ _ _ (fun h _ => absurd h hbN), Nat.add_assoc]
        rw [flat_drop, List.getElem?_drop] at hj
        exact hOb _ v (hcells _ v hj))
      (fun j hj => by rw [hWc]; exact isSome_setCells _ _ _ _ (fun t ht => hN _ (by simp [flat] at ht; omega)) _ (hN _ (by omega)))
      (fun j hj => by rw [hWf, World.frozen?_setCells]; exact hNf _) (flat_one _)
  subst hW1
  have hE1 : ∀ x, ((w.alloc (.cells ROW 28)).drew).cell? x = (w.drew.alloc (.cells ROW 28)).cell? x := fun x => rfl
  have hE2 : ∀ x, ((w.alloc (.cells ROW 28)).drew).frozen? x = (w.drew.alloc (.cells ROW 28)).frozen? x := fun x => rfl
  have hF1 : ∀ x, (((w.alloc (.cells ROW 28)).drew.setCells w.heap.size (i * 2) (flat [f])).drew).cell? x = ((w.drew.alloc (.cells ROW 28)).setCells w.heap.size (i * 2) (flat [f])).cell? x := fun x => rfl
  have hF2 : ∀ x, (((w.alloc (.cells ROW 28)).drew.setCells w.heap.size (i * 2) (flat [f])).drew).frozen? x = ((w.drew.alloc (.cells ROW 28)).setCells w.heap.size (i * 2) (flat [f])).frozen? x := fun x => rfl
  have hw1 : IntKind.i64.wrap ((i : Int) + 1) = (i : Int) + 1 := by rw [IntKind.wrap_i64]; omega
  have hw2 : IntKind.i64.wrap ((n : Int) + 1) = (n : Int) + 1 := by rw [IntKind.wrap_i64]; omega
  have hw3 : IntKind.i64.wrap ((n : Int) + 1 - (i : Int)) = (n : Int) + 1 - (i : Int) := by rw [IntKind.wrap_i64]; omega
  have hb1 : (0 : Int) ≤ (i : Int) + 1 := by omega
  have hin : i ≤ n := by omega
  have htn : ((i : Int) + 1).toNat = i + 1 := by omega
  have hb3 : (i : Int) ≤ (n : Int) := by omega
  have hz2 : ¬ ((i : Int) = (n : Int)) := by omega
  have hz3 : (c : Int) < (n : Int) + 1 := by omega
  have mixed : Try.prog.follows Departure.mixedOrders = true := by kernel_rfl
  clear hkk hik hold hROW hG hRl en hcells hN hNf hOb hOv hdl h0 h1 hi0 hz0 hzs hzb
  go_enter Try.func31, Try.ntmps31
  go_wp2_with (first
    | (at_builtin; refine Lib.wpList_append_run _ rfl _ _ _ _ rfl _ _ rfl rfl _ _ (hrz _) ?_)
    | (at_builtin; refine wpList_copy_runI _ rfl _ _ 39 39 rfl _ _ rfl rfl (hcpA _ hE1 hE2 _ _) ?_)
    | (at_builtin; refine wpList_copy_runI _ rfl _ _ 39 39 rfl _ _ rfl rfl (hcpB _ (fun _ => rfl) (fun _ => rfl) _ _ _) ?_))
  go_region_law_o (refine step_copy_runI rfl _ _ 39 39 rfl (.slice (some ⟨w.heap.size, (i + 1) * 2, none⟩) (n - i) (G - (i + 1))) (.slice (some ⟨g, off + i * 2, none⟩) (n - i) (c - i)) (by simp [Act.eval, Act.put]) (by simp [Act.eval, Act.put]) (hcpB _ hF1 hF2 3 (G - (i + 1)) (c - i)) ?_)
  go_wp2
  go_ret
  exact ⟨rfl, rfl⟩
end Go.Proofs.Ytcoddeemfdnjpaa.Free
