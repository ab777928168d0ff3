/- A list of texts that came in, as the walks want it. -/
import Derived.Test.YtcoddeemfdnjpaaDoorFnBase
import Derived.SliceStrings
import Derived.SizedLaws
namespace Go.Proofs.YtcoddeemfdnjpaaDoor
open Go.ChangeShapes Go.WideShapes Go.RowKit
open Go.Proofs.YtcoddeemfdnjpaaDoorW.PrintWords
theorem open_row {H : Type} {enc : TypeId × Value → H} {W : World} {a0 : Option Addr} {n c : Nat} {d : DataW H} {p : List MemPlace} (h : DataW.Trod enc Tryd.prog W 0 (fun _ => true) true 62 (.slice a0 n c) d p) :
    ∃ l : List ByteArray, l.length = n ∧ n ≤ c ∧ Kd.C Kd.string W a0 l.length l ∧ ((d = .nil ∧ l = []) ∨ ∃ sp, d = .slice (strs l) sp) := by
  obtain ⟨fuel, hf⟩ := h
  rcases open_strings Tryd.underlying62 Tryd.underlying9 (by kernel_rfl) hf with ⟨hcs, hx⟩ | ⟨a, len', cap', ss, hcs, _, hl, hm, hz, hx, hcell, hws⟩
  · simp [Value.cells] at hcs
    obtain ⟨rfl, rfl, rfl⟩ := hcs
    exact ⟨[], rfl, Nat.le_refl _, ⟨rfl, by decide, fun h => absurd h (by decide)⟩, .inl ⟨congrArg Prod.fst hx, rfl⟩⟩
  · simp [Value.cells] at hcs
    obtain ⟨rfl, rfl, rfl⟩ := hcs
    simp only [if_true] at hz
    have hlen : (ss.take n).length = n := by simp; omega
    refine ⟨ss.take n, hlen, hl, ⟨rfl, by have : c ≤ 9223372036854775807 := hm; omega, fun _ => ⟨a, rfl, fun j q hj => ⟨[.string q], rfl, rfl, fun i u hi => ?_⟩⟩⟩, .inr ⟨_, congrArg Prod.fst hx⟩⟩
    match i with
    | 0 =>
      simp only [List.getElem?_cons_zero, Option.some.injEq] at hi
      subst hi
      have hj' : ss[j]? = some q := by
        have hlt : j < n := by
          have := (List.getElem?_eq_some_iff.1 hj).1
          omega
        rwa [List.getElem?_take_of_lt hlt] at hj
      have hjl := (List.getElem?_eq_some_iff.1 hj').1
      have := hcell j hjl
      rw [List.getD_eq_getElem?_getD, hj'] at this
      show W.cell? (a.add (j * 1 + 0)) = _
      rw [show j * 1 + 0 = j by omega]
      simpa using this
    | _ + 1 => simp at hi
theorem weights_all {H : Type} {e : TypeId} : ∀ {l : List (DataW H)} {d : DataW H} {n : Nat}, d ∈ l → n ∈ d.weights Tryd.prog e → n ∈ DataW.weightsAll Tryd.prog e l
  | [], _, _, h, _ => by cases h
  | a :: l, d, n, h, hn => by
    rw [DataW.weightsAll, List.mem_append]
    rcases List.mem_cons.1 h with rfl | h
    · exact .inl hn
    · exact .inr (weights_all h hn)
theorem row_sized {H : Type} {ts : List TypeId} {ds : List (DataW H)} (h : (DataW.weightsEach Tryd.prog ts ds).all (· ≤ reachBytes) = true) {j : Nat} {d : DataW H} {l : List ByteArray} (ht : ts[j]? = some 62) (hd : ds[j]? = some d)
    (hl : (d = .nil ∧ l = []) ∨ ∃ sp, d = .slice (strs l) sp) : l.length < 4611686018427387904 ∧ ∀ p ∈ l, p.size < 4611686018427387904 := by
  rcases hl with ⟨_, rfl⟩ | ⟨sp, rfl⟩
  · exact ⟨by decide, by simp⟩
  · have hr := reachBytes_lt
    have h1 := sized_slice h ht hd Tryd.underlying62
    have hb : 1 ≤ Tryd.prog.bytesOf 9 := of_decide_eq_true (by kernel_rfl)
    refine ⟨?_, fun p hp => ?_⟩
    · have h2 : (strs (H := H) l).length = l.length := by simp [strs]
      rw [h2] at h1
      have h3 : (l.length + sp.length) * 1 ≤ (l.length + sp.length) * Tryd.prog.bytesOf 9 := Nat.mul_le_mul_left _ hb
      omega
    · have hm : (DataW.lit (.string p.data.toList) : DataW H) ∈ strs l := List.mem_map.2 ⟨p, hp, rfl⟩
      have h2 : p.data.toList.length ∈ (DataW.slice (strs l) sp : DataW H).weights Tryd.prog 62 := by
        rw [DataW.weights, Tryd.underlying62]
        simp only [List.mem_cons, List.mem_append]
        exact .inr (.inl (weights_all hm (by simp [DataW.weights])))
      have h3 := List.all_eq_true.1 h _ (DataW.weights_mem_each ht hd _ h2)
      have h4 : p.data.toList.length ≤ reachBytes := by simpa using h3
      have h5 : p.size = p.data.toList.length := by show p.data.size = _; simp
      omega
end Go.Proofs.YtcoddeemfdnjpaaDoor
