/- slices.Insert at free pages: what it leaves, whichever way it goes. -/
import Derived.Test.YtcoddeemfdnjpaaFreeGrow
namespace Go.Proofs.Ytcoddeemfdnjpaa.Free
open Go.RowKit Go.Lib Go.Proofs.Ytcoddeemfdnjpaa.Fn
/-- one element laid at place i -/
def ins (l : List S28) (i : Nat) (f : S28) : List S28 := l.take i ++ f :: l.drop i
theorem ins_length (l : List S28) (i : Nat) (f : S28) (hi : i ≤ l.length) : (ins l i f).length = l.length + 1 := by simp [ins]; omega
theorem flat_ins (l : List S28) (i : Nat) (f : S28) : flat (ins l i f) = flat (l.take i) ++ (flat [f] ++ flat (l.drop i)) := by
  rw [← flat_append, ← flat_append]; rfl
theorem cells_ins (W : World) (g o i : Nat) (l : List S28) (f : S28) (hi : i ≤ l.length) (a : ∀ j v, (flat (l.take i))[j]? = some v → W.cell? ⟨g, o + j, none⟩ = some v)
    (b : ∀ j v, (flat [f])[j]? = some v → W.cell? ⟨g, o + i * 2 + j, none⟩ = some v) (c : ∀ j v, (flat (l.drop i))[j]? = some v → W.cell? ⟨g, o + (i + 1) * 2 + j, none⟩ = some v) :
    ∀ j v, (flat (ins l i f))[j]? = some v → W.cell? ⟨g, o + j, none⟩ = some v := by
  intro j v hj
  have ht : (flat (l.take i)).length = i * 2 := by rw [flat_length, List.length_take, Nat.min_eq_left hi]
  rw [flat_ins, List.getElem?_append, ht] at hj
  split at hj
  · exact a j v hj
  · rename_i h1
    rw [List.getElem?_append] at hj
    have h2 : (flat [f]).length = 2 := rfl
    rw [h2] at hj
    split at hj
    · have := b _ v hj
      rwa [show o + i * 2 + (j - i * 2) = o + j by omega] at this
    · have := c _ v hj
      rwa [show o + (i + 1) * 2 + (j - i * 2 - 2) = o + j by omega] at this
theorem setCells_in (b o : Nat) (vs : List Value) (w : World) (h : ∀ j, j < vs.length → (w.cell? ⟨b, o + j, none⟩).isSome = true) (j : Nat) (v : Value) (hj : vs[j]? = some v) : (w.setCells b o vs).cell? ⟨b, o + j, none⟩ = some v := by
  obtain ⟨hl, hv⟩ := List.getElem?_eq_some_iff.1 hj
  rw [World.cell?_setCells_in b vs o w h j hl, hv]
theorem setCells_out (b o : Nat) (vs : List Value) (w : World) (k : Nat) (h : k < o ∨ o + vs.length ≤ k) : (w.setCells b o vs).cell? ⟨b, k, none⟩ = w.cell? ⟨b, k, none⟩ :=
  World.cell?_setCells_out b vs o w ⟨b, k, none⟩ (fun _ _ => h)
theorem take_cells {l : List S28} {i j : Nat} {v : Value} (h : (flat (l.take i))[j]? = some v) : (flat l)[j]? = some v ∧ j < i * 2 := by
  rw [flat_take, List.getElem?_take] at h
  split at h
  · exact ⟨h, by assumption⟩
  · cases h
theorem isSome_setCells2 (b o : Nat) (vs : List Value) (w : World) (k : Nat) (h : ∀ j, j < vs.length → (w.cell? ⟨b, o + j, none⟩).isSome = true) (hk : (w.cell? ⟨b, k, none⟩).isSome = true) : ((w.setCells b o vs).cell? ⟨b, k, none⟩).isSome = true :=
  isSome_setCells b vs o w h k hk
/-- what a call of Insert leaves -/
def InsSt (w : World) (v : Value) (l' : List S28) (e : Ending) (w' : World) : Prop :=
  ∃ v', e = .returned v' ∧ Lst w' (fun k => some k = v.ownBlock ∨ w.heap.size ≤ k) v' l' ∧ w.grownBy w' v.ownBlock
theorem row_shift {w : World} {g off c i : Nat} {l : List S28} {f : S28} (hi : i ≤ l.length) (hroom : l.length + 1 ≤ c) (R : Row w g off c l) (W : World) (hW : ∀ k : Nat, W.heap[k]? = w.heap[k]?) :
    Row ((W.setCells g (off + (i + 1) * 2) (flat (l.drop i))).setCells g (off + i * 2) (flat [f])) g off c (ins l i f) := by
  have R' : Row W g off c l := R.keep (hW g)
  have hd : (flat (l.drop i)).length = (l.length - i) * 2 := by rw [flat_length, List.length_drop]
  have h1 : ∀ j, j < (flat (l.drop i)).length → (W.cell? ⟨g, off + (i + 1) * 2 + j, none⟩).isSome = true := fun j hj => by
    rw [hd] at hj
    rw [Nat.add_assoc]; exact R'.here _ (by omega)
  have h2 : ∀ k, k < c * 2 → ((W.setCells g (off + (i + 1) * 2) (flat (l.drop i))).cell? ⟨g, off + k, none⟩).isSome = true := fun k hk => isSome_setCells2 g _ _ W _ h1 (R'.here k hk)
  have h3 : ∀ j, j < (flat [f]).length → ((W.setCells g (off + (i + 1) * 2) (flat (l.drop i))).cell? ⟨g, off + i * 2 + j, none⟩).isSome = true := fun j hj => by
    rw [Nat.add_assoc]
    exact h2 _ (by simp [flat] at hj; omega)
  refine ⟨by rw [ins_length l i f hi]; exact hroom, R'.big, cells_ins _ g off i l f hi (fun j v hj => ?_) (fun j v hj => setCells_in g _ _ _ h3 j v hj) (fun j v hj => ?_), fun j hj => isSome_setCells2 g _ _ _ _ h3 (h2 j hj),
    fun j => by rw [World.frozen?_setCells, World.frozen?_setCells]; exact R'.froz j, ?_⟩
  · obtain ⟨hj1, hj2⟩ := take_cells hj
    rw [setCells_out g _ _ _ _ (.inl (by omega)), setCells_out g _ _ _ _ (.inl (by omega))]
    exact R'.cells j v hj1
  · rw [setCells_out g _ _ _ _ (.inr (by simp [flat]; omega))]
    exact setCells_in g _ _ _ h1 j v hj
  · obtain ⟨k, hk, hk0⟩ := R'.shape
    exact ⟨k, by rw [shape_setCells, shape_setCells]; exact hk, hk0⟩
theorem row_room {w : World} {g off c : Nat} {l : List S28} {f : S28} (hroom : l.length + 1 ≤ c) (R : Row w g off c l) :
    Row (w.setCells g (off + l.length * 2) (flat [f])) g off c (ins l l.length f) := by
  have h3 : ∀ j, j < (flat [f]).length → (w.cell? ⟨g, off + l.length * 2 + j, none⟩).isSome = true := fun j hj => by
    rw [Nat.add_assoc]
    exact R.here _ (by simp [flat] at hj; omega)
  refine ⟨by rw [ins_length l _ f (Nat.le_refl _)]; exact hroom, R.big, cells_ins _ g off l.length l f (Nat.le_refl _) (fun j v hj => ?_) (fun j v hj => setCells_in g _ _ _ h3 j v hj) (fun j v hj => ?_), fun j hj => isSome_setCells2 g _ _ _ _ h3 (R.here j hj),
    fun j => by rw [World.frozen?_setCells]; exact R.froz j, ?_⟩
  · obtain ⟨hj1, hj2⟩ := take_cells hj
    rw [setCells_out g _ _ _ _ (.inl (by omega))]
    exact R.cells j v hj1
  · simp [flat] at hj
  · obtain ⟨k, hk, hk0⟩ := R.shape
    exact ⟨k, by rw [shape_setCells]; exact hk, hk0⟩
theorem shape_new (w : World) (c : Array Value) (t : TypeId) : (w.alloc (.cells c t)).shape? w.heap.size = some (t, c.size) := by
  simp [World.shape?, World.alloc, -World.alloc_eq]
theorem grown_drewL {w w' : World} {r : Option Nat} (h : w.drew.grownBy w' r) : w.grownBy w' r := ⟨h.os, h.tape, h.output, h.size, h.block⟩
theorem grown_drewR {w w' : World} {r : Option Nat} (h : w.grownBy w' r) : w.grownBy w'.drew r := ⟨h.os, h.tape, h.output, h.size, h.block⟩
theorem zero_size (n : Nat) : (Builtin.zeroCells (Value.agg #[.int .i64 0, .int .i64 0]).cells n).size = n * 2 := by simp [Builtin.zeroCells, Value.cells]
theorem row_new {w : World} {l : List S28} {Z : Array Value} {c : Nat} (h1 : l.length ≤ c) (h2 : c ≤ 9223372036854775807) (hz : (l.length) * 2 + Z.size = c * 2) :
    Row (w.alloc (.cells ((flat l).toArray ++ Z) 28)) w.heap.size 0 c l := by
  have hs : ((flat l).toArray ++ Z).size = c * 2 := by simp [flat_length]; exact hz
  refine ⟨h1, h2, fun j v hj => ?_, fun j hj => ?_, fun j => World.frozen?_alloc_at _ _ _ _ rfl, c * 2, ?_, fun h0 => by omega⟩
  · rw [Nat.zero_add, World.cell?_alloc_at _ _ _ _ rfl, Array.getElem?_append]
    obtain ⟨hl, hv⟩ := List.getElem?_eq_some_iff.1 hj
    rw [if_pos (by simpa using hl)]
    simpa using hj
  · rw [Nat.zero_add, World.cell?_alloc_at _ _ _ _ rfl, Array.getElem?_eq_getElem (by omega)]; rfl
  · rw [shape_new, hs]
theorem cap_le (w : World) (n c : Nat) (h : n < 100001) : grownCap w n c 28 ≤ 9223372036854775807 := by
  have := grownCap_le_maxLen w n c 28 (by unfold maxLen; omega)
  unfold maxLen at this
  omega
theorem insert_any (w : World) (ok : Nat → Prop) (v : Value) (l : List S28) (i vb voff vc : Nat) (f : S28) (H : Lst w ok v l) (hi : i ≤ l.length) (hn : l.length < 100000) (hvb : ¬ ok vb)
    (h0 : w.cell? ⟨vb, voff, none⟩ = some (.int .i64 f.f0)) (h1 : w.cell? ⟨vb, voff + 1, none⟩ = some (.int .i64 f.f1)) (hsv : ∃ k, w.shape? vb = some (28, k)) (hfv : ∀ j, w.frozen? ⟨vb, j, none⟩ = false) :
    Calls Try.prog 31 #[v, .int .i64 (i : Int), .slice (some ⟨vb, voff, none⟩) 1 vc] w (InsSt w v (ins l i f)) := by
  have endgrow : ∀ (base : Option Addr) (c : Nat), i = l.length → l.length ≤ c → c < l.length + 1 → (base = none → l = [] ∧ c = 0) → (∀ a, base = some a → ∀ j v, (flat l)[j]? = some v → w.cell? (a.add j) = some v) →
      Calls Try.prog 31 #[.slice base l.length c, .int .i64 (i : Int), .slice (some ⟨vb, voff, none⟩) 1 vc] w (InsSt w (.slice base l.length c) (ins l i f)) := by
    intro base c hie hnc hroom hnil hcs
    subst hie
    refine (insert_end_grow w base c vb voff vc l f hn hnc hroom hnil hcs h0 h1).mono ?_
    rintro e w' ⟨rfl, rfl⟩
    have hge := grownCap_ge w (l.length + 1) c 28
    have e1 : flat l ++ flat [f] = flat (ins l l.length f) := by rw [flat_ins]; simp [flat]
    have el := ins_length l l.length f (Nat.le_refl _)
    refine ⟨_, rfl, .inr ⟨w.heap.size, 0, _, by rw [el], .inr (Nat.le_refl _), ?_⟩, ⟨rfl, rfl, rfl, by simp, fun k hk _ => Below.heap_alloc _ _ _ hk⟩⟩
    rw [e1]
    exact row_new (w := w.drew) (by rw [el]; exact hge) (cap_le w _ _ (by omega)) (by rw [el, zero_size]; omega)
  rcases H with ⟨rfl, rfl⟩ | ⟨g, off, c, rfl, hg, R⟩
  · exact endgrow none 0 (by simpa using hi) (Nat.le_refl _) (by simp) (fun _ => ⟨rfl, rfl⟩) (fun a h => by cases h)
  · have hne : vb ≠ g := fun e => hvb (e ▸ hg)
    by_cases hroom : l.length + 1 ≤ c
    · by_cases hie : i = l.length
      · subst hie
        refine (insert_room w g off c vb voff vc l f hroom R h0 h1).mono ?_
        rintro e w' ⟨rfl, rfl⟩
        exact ⟨_, rfl, .inr ⟨g, off, c, by rw [ins_length l _ f (Nat.le_refl _)], .inl rfl, row_room hroom R⟩, grown_setCells g _ _ w⟩
      · refine (insert_shift w g off c i vb voff vc l f (by omega) hroom R hne h0 h1 hsv hfv).mono ?_
        rintro e w' ⟨rfl, rfl⟩
        exact ⟨_, rfl, .inr ⟨g, off, c, by rw [ins_length l _ f hi], .inl rfl, row_shift hi hroom R w.drew (fun _ => rfl)⟩, grown_trans (b := w.drew.setCells g (off + (i + 1) * 2) (flat (l.drop i))) (grown_drewL (grown_setCells g _ _ w.drew)) (grown_setCells g _ _ _)⟩
    · by_cases hie : i = l.length
      · exact endgrow (some ⟨g, off, none⟩) c hie R.le (by omega) (fun h => by cases h) (fun a h j v hj => by cases h; rw [Addr.add_lit]; exact R.cells j v hj)
      · refine (insert_grow w g off c i vb voff vc l f (by omega) hn (by omega) R h0 h1).mono ?_
        rintro e w' ⟨rfl, rfl⟩
        have hge := grownCap_ge w (l.length + 1) c 28
        have hbig := cap_le w (l.length + 1) c (by omega)
        have el := ins_length l i f hi
        generalize grownCap w (l.length + 1) c 28 = G at hge hbig ⊢
        obtain ⟨ROW, hROW⟩ : ∃ ROW : Array Value, ROW = (flat (l.take i)).toArray ++ Builtin.zeroCells (Value.agg #[.int .i64 0, .int .i64 0]).cells (l.length + 1 - i) ++ Builtin.zeroCells (Value.agg #[.int .i64 0, .int .i64 0]).cells (G - (l.length + 1)) := ⟨_, rfl⟩
        have ht : (flat (l.take i)).length = i * 2 := by rw [flat_length, List.length_take, Nat.min_eq_left hi]
        have hd : (flat (l.drop i)).length = (l.length - i) * 2 := by rw [flat_length, List.length_drop]
        have hRs : ROW.size = G * 2 := by
          rw [hROW, Array.size_append, Array.size_append, zero_size, zero_size, List.size_toArray, ht]; omega
        have hRt : ∀ j v, (flat (l.take i))[j]? = some v → ROW[j]? = some v := fun j v hj => by
          obtain ⟨hl, hv⟩ := List.getElem?_eq_some_iff.1 hj
          rw [hROW, Array.append_assoc, Array.getElem?_append, if_pos (by simpa using hl)]
          simpa using hj
        rw [← hROW]
        clear hROW
        have hG1 : w.grownBy ((((w.alloc (.cells ROW 28)).drew.setCells w.heap.size (i * 2) (flat [f])).drew).setCells w.heap.size ((i + 1) * 2) (flat (l.drop i))) (some g) := by
          refine grown_new (b := (w.alloc (.cells ROW 28)).drew) ⟨rfl, rfl, rfl, by simp, fun k hk _ => Below.heap_alloc _ _ _ hk⟩ ?_
          exact grown_trans (b := ((w.alloc (.cells ROW 28)).drew.setCells w.heap.size (i * 2) (flat [f])).drew) (grown_drewR (grown_setCells _ _ _ _)) (grown_setCells _ _ _ _)
        refine ⟨_, rfl, .inr ⟨w.heap.size, 0, G, by rw [el], .inr (Nat.le_refl _), ?_⟩, hG1⟩
        have hN : ∀ j, j < G * 2 → ((w.alloc (.cells ROW 28)).drew.cell? ⟨w.heap.size, j, none⟩).isSome = true := fun j hj => by
          show ((w.alloc (.cells ROW 28)).cell? ⟨w.heap.size, j, none⟩).isSome = true
          rw [World.cell?_alloc_at _ _ _ _ rfl, Array.getElem?_eq_getElem (by omega)]; rfl
        have h3 : ∀ j, j < (flat [f]).length → ((w.alloc (.cells ROW 28)).drew.cell? ⟨w.heap.size, i * 2 + j, none⟩).isSome = true := fun j hj => hN _ (by simp [flat] at hj; omega)
        have h4 : ∀ k, k < G * 2 → (((w.alloc (.cells ROW 28)).drew.setCells w.heap.size (i * 2) (flat [f])).drew.cell? ⟨w.heap.size, k, none⟩).isSome = true := fun k hk => isSome_setCells2 _ _ _ _ _ h3 (hN k hk)
        have h5 : ∀ j, j < (flat (l.drop i)).length → (((w.alloc (.cells ROW 28)).drew.setCells w.heap.size (i * 2) (flat [f])).drew.cell? ⟨w.heap.size, (i + 1) * 2 + j, none⟩).isSome = true := fun j hj => h4 _ (by rw [hd] at hj; omega)
        refine ⟨by rw [el]; exact hge, hbig, cells_ins _ _ 0 i l f hi (fun j v hj => ?_) (fun j v hj => ?_) (fun j v hj => ?_), fun j hj => ?_, fun j => ?_, G * 2, ?_, fun h0 => by omega⟩
        · obtain ⟨hj1, hj2⟩ := take_cells hj
          rw [Nat.zero_add, setCells_out _ _ _ _ _ (.inl (by omega))]
          refine (setCells_out _ _ _ _ _ (.inl (by omega))).trans ?_
          show ((w.alloc (.cells ROW 28)).cell? ⟨w.heap.size, j, none⟩) = _
          rw [World.cell?_alloc_at _ _ _ _ rfl]
          exact hRt j v hj
        · rw [Nat.zero_add, setCells_out _ _ _ _ _ (.inl (by have := (List.getElem?_eq_some_iff.1 hj).1; simp [flat] at this; omega))]
          exact setCells_in _ _ _ _ h3 j v hj
        · rw [Nat.zero_add]
          exact setCells_in _ _ _ _ h5 j v hj
        · rw [Nat.zero_add]
          exact isSome_setCells2 _ _ _ _ _ h5 (h4 j hj)
        · rw [World.frozen?_setCells]
          show (((w.alloc (.cells ROW 28)).drew.setCells w.heap.size (i * 2) (flat [f]))).frozen? _ = _
          rw [World.frozen?_setCells]
          exact World.frozen?_alloc_at _ _ _ _ rfl
        · rw [shape_setCells]
          show (((w.alloc (.cells ROW 28)).drew.setCells w.heap.size (i * 2) (flat [f]))).shape? _ = _
          rw [shape_setCells]
          show (w.alloc (.cells ROW 28)).shape? _ = _
          rw [shape_new, hRs]
#print axioms insert_any
end Go.Proofs.Ytcoddeemfdnjpaa.Free
