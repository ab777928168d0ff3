/- The building of a list of 513 cells out of its row and its table. -/
import Derived.Test.YtcoddeemfdnjpaaFreeAll
import Derived.Great.FillDense
import Derived.Deep.MidRow
namespace Go.Proofs.Ytcoddeemfdnjpaa.Free
open Go.RowKit Go.Lib Go.Proofs.Ytcoddeemfdnjpaa.Fn
theorem fill_two (C : Array Value) (hz : C.size = 513) (v : Value) (hv : v.cells = #[v]) (cs : List Value) (hcs : cs.length = 512) (pl : Nat → Option (Nat × Nat)) (h0 : pl 0 = some (0, 1)) (h1 : pl 1 = some (1, 512)) :
    Instr.fill pl C [(0, v), (1, .agg cs.toArray)] = some (#[v] ++ cs.toArray) := by
  have e1 : (Value.agg cs.toArray).cells = cs.toArray := rfl
  have e2 : (#[v] : Array Value).zipIdx.foldl (fun cs (x : Value × Nat) => cs.setIfInBounds (0 + x.2) x.1) C = C.setIfInBounds 0 v := rfl
  obtain ⟨k1, k2⟩ := Great.foldl_set 1 cs 0 (C.setIfInBounds 0 v)
  have e3 : cs.toArray.zipIdx.foldl (fun cs (x : Value × Nat) => cs.setIfInBounds (1 + x.2) x.1) (C.setIfInBounds 0 v) = #[v] ++ cs.toArray := by
    rw [← Array.foldl_toList, Array.toList_zipIdx]
    apply Array.ext_getElem?
    intro k
    refine (k2 k).trans ?_
    rw [Array.getElem?_append]
    by_cases hk : 1 ≤ k ∧ k < 513
    · rw [if_pos ⟨by omega, by omega, by rw [Array.size_setIfInBounds]; omega⟩, if_neg (by simp; omega)]
      simp
    · rw [if_neg (by omega)]
      by_cases hk0 : k = 0
      · subst hk0
        simp [hz]
      · rw [if_neg (by simp; omega), Array.getElem?_eq_none (by rw [Array.size_setIfInBounds]; omega), Array.getElem?_eq_none (by simp; omega)]
  rw [Instr.fill, h0]
  simp only [hv]
  rw [if_neg (by simp [hz])]
  rw [Instr.fill, h1]
  simp only [e1]
  rw [if_neg (by simp [hz, hcs])]
  rw [Instr.fill]
  refine congrArg some ?_
  exact e3
#print axioms fill_two
end Go.Proofs.Ytcoddeemfdnjpaa.Free

set_option linter.unusedSimpArgs false
namespace Go.Proofs.Ytcoddeemfdnjpaa.Free
open Go.RowKit Go.Lib Go.Proofs.Ytcoddeemfdnjpaa.Fn
theorem newCells_size : newCells.size = 513 := by simp [newCells]
theorem size39 (w : World) : (sizeOf 39).run Try.prog w = .ok 1 w := by simp [sizeOf, typeInfo]; kernel_rfl
theorem size53 (w : World) : (sizeOf 53).run Try.prog w = .ok 512 w := by simp [sizeOf, typeInfo]; kernel_rfl
theorem build55 (w : World) (v : Value) (hv : v.cells = #[v]) (cs : List Value) (hcs : cs.length = 512) : (Instr.build 55 #[(0, v), (1, .agg cs.toArray)]).run Try.prog w = .ok (.agg (#[v] ++ cs.toArray)) w := by
  have hz := zero55 w
  have hs := newCells_size
  have h39 := size39 w
  have h53 := size53 w
  have hfill := fun (pl : Nat → Option (Nat × Nat)) (h0 : pl 0 = some (0, 1)) (h1 : pl 1 = some (1, 512)) => fill_two newCells hs v hv cs hcs pl h0 h1
  have hc : (Value.agg newCells).cells = newCells := rfl
  generalize newCells = C at hz hfill hc
  generalize (Value.agg cs.toArray) = D at hfill ⊢
  generalize #[v] ++ cs.toArray = E at hfill ⊢
  unfold Instr.build
  simp [Sem.run_bind, hz, hc, run_underlying Try.underlying55, h39, h53]
  rw [hfill _ rfl rfl]
  rfl
end Go.Proofs.Ytcoddeemfdnjpaa.Free
