/- A list of texts that came in, as the walks want it. -/
import Derived.Test.YtcoddeemfdnjpaaDoorFnBase
import Derived.SliceStrings
namespace Go.Proofs.YtcoddeemfdnjpaaDoor
open Go.ChangeShapes Go.WideShapes Go.RowKit
open Go.Proofs.YtcoddeemfdnjpaaDoorW.PrintWords
theorem open_row {H : Type} {enc : TypeId × Value → H} {W : World} {a0 : Option Addr} {n c : Nat} {d : DataW H} {p : List MemPlace} (h : DataW.Trod enc Tryd.prog W 0 (fun _ => true) true 62 (.slice a0 n c) d p) :
    ∃ l : List ByteArray, l.length = n ∧ n ≤ c ∧ Kd.C Kd.string W a0 l.length l ∧ ∀ s ∈ l, s.size ≤ maxLen := by
  obtain ⟨fuel, hf⟩ := h
  rcases open_strings Tryd.underlying62 Tryd.underlying9 (by kernel_rfl) hf with ⟨hcs, hx⟩ | ⟨a, len', cap', ss, hcs, _, hl, hm, hz, hx, hcell, hws⟩
  · simp [Value.cells] at hcs
    obtain ⟨rfl, rfl, rfl⟩ := hcs
    exact ⟨[], rfl, Nat.le_refl _, ⟨rfl, by decide, fun h => absurd h (by decide)⟩, by simp⟩
  · simp [Value.cells] at hcs
    obtain ⟨rfl, rfl, rfl⟩ := hcs
    simp only [if_true] at hz
    have hlen : (ss.take n).length = n := by simp; omega
    refine ⟨ss.take n, hlen, hl, ⟨rfl, by have : c ≤ 9223372036854775807 := hm; omega, fun _ => ⟨a, rfl, fun j q hj => ⟨[.string q], rfl, rfl, fun i u hi => ?_⟩⟩⟩, fun s hs => hws s (List.mem_of_mem_take hs)⟩
    match i with
    | 0 =>
      simp only [List.getElem?_cons_zero, Option.some.injEq] at hi
      subst hi
      have hj' : ss[j]? = some q := by
        have hlt : j < n := by
          have := (List.getElem?_eq_some_iff.1 hj).1
          omega
        rwa [List.getElem?_take_of_lt hlt] at hj
      have hjl := (List.getElem?_eq_some_iff.1 hj').1
      have := hcell j hjl
      rw [List.getD_eq_getElem?_getD, hj'] at this
      show W.cell? (a.add (j * 1 + 0)) = _
      rw [show j * 1 + 0 = j by omega]
      simpa using this
    | _ + 1 => simp at hi
end Go.Proofs.YtcoddeemfdnjpaaDoor
