/- The row of free pages as it lies in memory: two cells an element; what a copy, a store and a new block do to it. -/
import Derived.Test.YtcoddeemfdnjpaaFn30
import Derived.Test.YtcoddeemfdnjpaaFn28
import Derived.Shelf.Spec.SlicesInsert
namespace Go.Proofs.Ytcoddeemfdnjpaa.Free
open Go.RowKit Go.Lib Go.Proofs.Ytcoddeemfdnjpaa.Fn
/-- the cells of free pages -/
def flat : List S28 → List Value
  | [] => []
  | x :: r => .int .i64 x.f0 :: .int .i64 x.f1 :: flat r
theorem flat_length : ∀ l : List S28, (flat l).length = l.length * 2
  | [] => rfl
  | x :: r => by simp [flat, flat_length r]; omega
theorem flat_append : ∀ a b : List S28, flat (a ++ b) = flat a ++ flat b
  | [], _ => rfl
  | x :: r, b => by simp [flat, flat_append r b]
theorem flat_take : ∀ (l : List S28) (i : Nat), flat (l.take i) = (flat l).take (i * 2)
  | [], i => by simp [flat]
  | x :: r, 0 => by simp [flat]
  | x :: r, i + 1 => by rw [show (i + 1) * 2 = i * 2 + 1 + 1 by omega]; simp [flat, flat_take r i]
theorem flat_drop : ∀ (l : List S28) (i : Nat), flat (l.drop i) = (flat l).drop (i * 2)
  | [], i => by simp [flat]
  | x :: r, 0 => by simp [flat]
  | x :: r, i + 1 => by rw [show (i + 1) * 2 = i * 2 + 1 + 1 by omega]; simp [flat, flat_drop r i]
theorem flat_get0 : ∀ (l : List S28) (i : Nat) (h : i < l.length), (flat l)[i * 2]? = some (.int .i64 l[i].f0)
  | x :: r, 0, _ => by simp [flat]
  | x :: r, i + 1, h => by rw [show (i + 1) * 2 = i * 2 + 1 + 1 by omega]; simpa [flat] using flat_get0 r i (by simpa using h)
theorem flat_get1 : ∀ (l : List S28) (i : Nat) (h : i < l.length), (flat l)[i * 2 + 1]? = some (.int .i64 l[i].f1)
  | x :: r, 0, _ => by simp [flat]
  | x :: r, i + 1, h => by rw [show (i + 1) * 2 + 1 = i * 2 + 1 + 1 + 1 by omega]; simpa [flat] using flat_get1 r i (by simpa using h)
theorem flat_one : ∀ (l : List S28), ∀ v ∈ flat l, v.oneCell' = true
  | [], _, h => by simp [flat] at h
  | x :: r, v, h => by
    simp only [flat, List.mem_cons] at h
    rcases h with rfl | rfl | h
    · rfl
    · rfl
    · exact flat_one r v h
/-- 'copy' at elements of any size -/
theorem run_copy_sz {P : Program} (sz : Nat) (w : World) (dT sT ty elem : TypeId) (b o dLen dCap : Nat) (a : Addr) (sLen sCap : Nat) (cs : List Value)
    (hu : P.underlying dT = some (.slice elem)) (hs : (P.info? elem).map (·.size) = some sz) (hn : cs.length = Nat.min sLen dLen * sz)
    (hsrc : ∀ j v, cs[j]? = some v → w.cell? (a.add j) = some v) (hc : ∀ j, j < cs.length → (w.cell? ⟨b, o + j, none⟩).isSome = true) (hf : ∀ j, j < cs.length → w.frozen? ⟨b, o + j, none⟩ = false) (h1 : ∀ v ∈ cs, v.oneCell' = true) :
    (Builtin.copy_ #[dT, sT] ty #[.slice (some ⟨b, o, none⟩) dLen dCap, .slice (some a) sLen sCap]).run P w = .ok (goInt (Nat.min sLen dLen)) (w.setCells b o cs) := by
  have hl := run_loadCells_list (P := P) w a cs hsrc
  have hst := run_storeCells_cells (P := P) b o cs 0 w (by simpa using hc) (by simpa using hf) h1
  cases hq : P.info? elem with
  | none => simp [hq] at hs
  | some i =>
    have hi : i.size = sz := by simpa [hq] using hs
    simp [Builtin.copy_, run_underlying hu, Builtin.lenOf, Builtin.firstCells, sizeOf, typeInfo, hq, hi, ← hn, hl, hst]
theorem heap_setCells (b : Nat) : ∀ (vs : List Value) (o : Nat) (w : World) (k : Nat), k ≠ b → (w.setCells b o vs).heap[k]? = w.heap[k]?
  | [], _, _, _, _ => rfl
  | v :: r, o, w, k, h => by rw [World.setCells, heap_setCells b r _ _ k h, Below.heap_setCell _ _ _ _ h]
theorem size_setCells (b : Nat) : ∀ (vs : List Value) (o : Nat) (w : World), (w.setCells b o vs).heap.size = w.heap.size
  | [], _, _ => rfl
  | v :: r, o, w => by rw [World.setCells, size_setCells b r]; simp [World.setCell]
theorem shape_setCell (w : World) (a : Addr) (v : Value) (k : Nat) : (w.setCell a v).shape? k = w.shape? k := by
  by_cases h : a.block = k
  · simp only [World.shape?, World.setCell, Array.getElem?_modify, if_pos h]
    cases w.heap[k]? with
    | none => rfl
    | some o => cases o with
      | cells c e z => simp only [Option.map_some]; congr 2; split <;> simp
      | _ => rfl
  · simp only [World.shape?, World.setCell, Array.getElem?_modify, if_neg h]
theorem shape_setCells (b : Nat) : ∀ (vs : List Value) (o : Nat) (w : World) (k : Nat), (w.setCells b o vs).shape? k = w.shape? k
  | [], _, _, _ => rfl
  | v :: r, o, w, k => by rw [World.setCells, shape_setCells b r, shape_setCell]
theorem grown_setCells (b : Nat) : ∀ (vs : List Value) (o : Nat) (w : World), w.grownBy (w.setCells b o vs) (some b)
  | [], _, w => ⟨rfl, rfl, rfl, Nat.le_refl _, fun _ _ _ => rfl⟩
  | v :: r, o, w => by
    have h := grown_setCells b r (o + 1) (w.setCell ⟨b, o, none⟩ v)
    have hs : (w.setCell ⟨b, o, none⟩ v).heap.size = w.heap.size := by simp [World.setCell]
    exact ⟨h.os, h.tape, h.output, by rw [World.setCells]; have := h.size; omega, fun k hk hne => by
      rw [World.setCells, h.block k (by omega) hne]
      exact Below.heap_setCell _ _ _ _ (fun e => hne (by rw [e]))⟩
theorem grown_trans {a b c : World} {r : Option Nat} (h : a.grownBy b r) (k : b.grownBy c r) : a.grownBy c r :=
  ⟨k.os.trans h.os, k.tape.trans h.tape, k.output.trans h.output, Nat.le_trans h.size k.size, fun i hi hne => (k.block i (Nat.lt_of_lt_of_le hi h.size) hne).trans (h.block i hi hne)⟩
theorem grown_new {a b c : World} {r : Option Nat} (h : a.grownBy b r) (k : b.grownBy c (some a.heap.size)) : a.grownBy c r :=
  ⟨k.os.trans h.os, k.tape.trans h.tape, k.output.trans h.output, Nat.le_trans h.size k.size, fun i hi hne => (k.block i (Nat.lt_of_lt_of_le hi h.size) (by simp; omega)).trans (h.block i hi hne)⟩
theorem grown_below {w w' : World} {r : Option Nat} (h : Below w.heap.size w w') : w.grownBy w' r := ⟨h.os, h.tape, h.output, h.size, fun k hk _ => h.block k hk⟩
theorem below_grown {w w' : World} (h : w.grownBy w' none) : Below w.heap.size w w' := ⟨h.os, h.tape, h.output, h.size, fun k hk => h.block k hk (by simp)⟩
/-- so many elements lie in block g from 'off' on; room for 'cap' -/
structure Row (w : World) (g off cap : Nat) (l : List S28) : Prop where
  le : l.length ≤ cap
  big : cap ≤ 9223372036854775807
  cells : ∀ j v, (flat l)[j]? = some v → w.cell? ⟨g, off + j, none⟩ = some v
  here : ∀ j, j < cap * 2 → (w.cell? ⟨g, off + j, none⟩).isSome = true
  froz : ∀ j, w.frozen? ⟨g, j, none⟩ = false
  shape : ∃ k, w.shape? g = some (28, k) ∧ (cap ≠ 0 → k ≠ 0)
theorem Row.lt {w : World} {g off cap : Nat} {l : List S28} (h : Row w g off cap l) : g < w.heap.size := by
  obtain ⟨k, hk, _⟩ := h.shape
  unfold World.shape? at hk
  rcases Nat.lt_or_ge g w.heap.size with hlt | hge
  · exact hlt
  · rw [Array.getElem?_eq_none hge] at hk
    cases hk
theorem Row.keep {w w' : World} {g off cap : Nat} {l : List S28} (h : Row w g off cap l) (hb : w'.heap[g]? = w.heap[g]?) : Row w' g off cap l :=
  ⟨h.le, h.big, fun j v hj => (World.cell?_of_block (a := ⟨g, off + j, none⟩) hb).trans (h.cells j v hj), fun j hj => by rw [World.cell?_of_block (a := ⟨g, off + j, none⟩) hb]; exact h.here j hj,
    fun j => (World.frozen?_of_block (a := ⟨g, j, none⟩) hb).trans (h.froz j), by
      obtain ⟨k, hk, h0⟩ := h.shape
      exact ⟨k, by simpa [World.shape?, hb] using hk, h0⟩⟩
theorem Row.at0 {w : World} {g off cap : Nat} {l : List S28} (h : Row w g off cap l) (i : Nat) (hi : i < l.length) : w.cell? ⟨g, off + i * 2, none⟩ = some (.int .i64 l[i].f0) := h.cells _ _ (flat_get0 l i hi)
theorem Row.at1 {w : World} {g off cap : Nat} {l : List S28} (h : Row w g off cap l) (i : Nat) (hi : i < l.length) : w.cell? ⟨g, off + i * 2 + 1, none⟩ = some (.int .i64 l[i].f1) := by
  rw [Nat.add_assoc]; exact h.cells _ _ (flat_get1 l i hi)
/-- the row without its first element -/
theorem Row.tail {w : World} {g off cap : Nat} {x : S28} {l : List S28} (h : Row w g off cap (x :: l)) (_ : cap ≠ 1) : Row w g (off + 2) (cap - 1) l :=
  ⟨by have := h.le; simp at this; omega, by have := h.big; omega, fun j v hj => by rw [show off + 2 + j = off + (j + 2) by omega]; exact h.cells (j + 2) v (by simpa [flat] using hj),
    fun j hj => by rw [show off + 2 + j = off + (j + 2) by omega]; exact h.here _ (by omega), h.froz, h.shape.imp fun k hk => ⟨hk.1, fun h0 => hk.2 (by omega)⟩⟩
theorem Row.tail1 {w : World} {g off : Nat} {x : S28} {l : List S28} (h : Row w g off 1 (x :: l)) : Row w g off 0 [] :=
  ⟨Nat.le_refl _, by omega, fun j v hj => by simp [flat] at hj, fun j hj => by omega, h.froz, h.shape.imp fun k hk => ⟨hk.1, fun h0 => absurd rfl h0⟩⟩
/-- a slice of free pages -/
def Lst (w : World) (ok : Nat → Prop) (v : Value) (l : List S28) : Prop :=
  (v = .slice none 0 0 ∧ l = []) ∨ ∃ g off cap, v = .slice (some ⟨g, off, none⟩) l.length cap ∧ ok g ∧ Row w g off cap l
theorem Lst.keep {w w' : World} {ok ok' : Nat → Prop} {v : Value} {l : List S28} (h : Lst w ok v l) (hb : ∀ k, ok k → k < w.heap.size → w'.heap[k]? = w.heap[k]? ∧ ok' k) : Lst w' ok' v l := by
  rcases h with h | ⟨g, off, cap, rfl, hg, hr⟩
  · exact .inl h
  · exact .inr ⟨g, off, cap, rfl, (hb g hg hr.lt).2, hr.keep (hb g hg hr.lt).1⟩
#print axioms Lst.keep
end Go.Proofs.Ytcoddeemfdnjpaa.Free
