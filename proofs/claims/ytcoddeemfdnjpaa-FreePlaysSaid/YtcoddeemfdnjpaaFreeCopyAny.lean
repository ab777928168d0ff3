/- List.Copy: another list of the same pages. -/
import Derived.Test.YtcoddeemfdnjpaaFreeCopy
namespace Go.Proofs.Ytcoddeemfdnjpaa.Free
open Go.RowKit Go.Lib Go.Proofs.Ytcoddeemfdnjpaa.Fn
theorem copy_any (w : World) (ok : Nat → Prop) (b : Nat) (l : List S28) (H : ListAt w b ok l) :
    Calls Try.prog 17 #[.pointer (some ⟨b, 0, none⟩)] w fun e w' => ∃ B, e = .returned (.pointer (some ⟨B, 0, none⟩)) ∧ w.heap.size ≤ B ∧ B < w'.heap.size ∧ ListAt w' B (fun k => w.heap.size ≤ k ∧ k ≠ B) l ∧ Below w.heap.size w w' := by
  refine (copy_raw w ok b l H).mono ?_
  rintro e w' ⟨v', w2, rfl, hL, hB, rfl⟩
  have hlen := tabL_length l
  refine ⟨w2.heap.size, rfl, hB.size, by simp, ⟨⟨v', ?_, ?_⟩, fun p hp => ?_, fun j => World.frozen?_alloc_at _ _ _ _ rfl, fun h => h.2 rfl, H.rights, H.sorted, H.apart⟩, hB.alloc hB.size _⟩
  · rw [World.cell?_alloc_at _ _ _ _ rfl, Array.getElem?_append]
    simp
  · exact hL.keep (fun k hk hlt => ⟨Below.heap_alloc _ _ _ hlt, hk, by omega⟩)
  · rw [World.cell?_alloc_at _ _ _ _ rfl, Array.getElem?_append, if_neg (by simp)]
    have e : 1 + p - (#[v'] : Array Value).size = p := by simp
    rw [e]
    simp [tabL, hp]
#print axioms copy_any
end Go.Proofs.Ytcoddeemfdnjpaa.Free
