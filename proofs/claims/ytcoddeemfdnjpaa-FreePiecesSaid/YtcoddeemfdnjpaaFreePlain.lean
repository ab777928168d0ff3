/- The plain law of free pages in order: lists that a piece may have; how a list lies in memory. -/
import Derived.Test.YtcoddeemfdnjpaaFreeAddOk
import Derived.Lib.Hide
namespace Go.Proofs.Ytcoddeemfdnjpaa.Free
open Go.RowKit Go.Lib Go.Proofs.Ytcoddeemfdnjpaa.Fn
open Go.Proofs.YtcoddeemfdnjpaaW.PrintWords hiding nums nums_length nums_append
/-- a list that a piece may have -/
def OKL (l : List S28) : Prop := (∀ x ∈ l, right x) ∧ l.Pairwise ltF ∧ l.Pairwise (fun x y => x.f1 ≠ y.f1)
instance (a b : S28) : Decidable (ltF a b) := by unfold ltF; exact inferInstance
instance (l : List S28) : Decidable (OKL l) := by unfold OKL; exact inferInstance
def mayB (next : Int) (l : List S28) : Bool := decide (0 ≤ next ∧ next < 512 ∧ l.length ≤ 40 ∧ OKL l)
def FreesAt (w : World) (g off : Nat) (l : List S28) : Prop := ∀ i (_ : i < l.length), w.cell? ⟨g, off + i * 2, none⟩ = some (.int .i64 (l.getD i zS).f0) ∧ w.cell? ⟨g, off + i * 2 + 1, none⟩ = some (.int .i64 (l.getD i zS).f1)
theorem frees_of {w : World} {A : Option Addr} {n : Nat} {l : List S28} (h : Kd.C k28 w A n l) : l = [] ∨ ∃ g off, A = some ⟨g, off, none⟩ ∧ FreesAt w g off l := by
  rcases Nat.eq_zero_or_pos n with h0 | hpos
  · exact .inl (List.length_eq_zero_iff.1 (h.1.trans h0))
  · refine .inr ?_
    obtain ⟨ad, e, hc⟩ := h.2.2 hpos
    have hcell : ∀ i (hi : i < l.length), w.cell? (ad.add (i * 2)) = some (.int .i64 (l.getD i zS).f0) ∧ w.cell? (ad.add (i * 2 + 1)) = some (.int .i64 (l.getD i zS).f1) := by
      intro i hi
      obtain ⟨c, _, hK, hcc⟩ := hc i l[i] (List.getElem?_eq_getElem hi)
      obtain rfl := k28_open hK
      rw [getD_at l zS i hi]
      exact ⟨hcc 0 _ rfl, hcc 1 _ rfl⟩
    obtain ⟨g, off, sp⟩ := ad
    have hs : sp = none := by
      have h0 := (hcell 0 (by have := h.1; omega)).1
      simp only [Nat.zero_mul, Addr.add, if_true] at h0
      unfold World.cell? at h0
      split at h0
      · split at h0
        · cases h0
        · rename_i hh; simpa using hh
      · cases h0
    subst hs
    refine ⟨g, off, e, fun i hi => ?_⟩
    have := hcell i hi
    simp only [Addr.add_lit] at this
    simpa [Nat.add_assoc] using this
theorem FreesAt.below {w w' : World} {g off : Nat} {l : List S28} (h : FreesAt w g off l) (hb : Below w.heap.size w w') : FreesAt w' g off l := fun i hi => by
  obtain ⟨h0, h1⟩ := h i hi
  have hg : g < w.heap.size := block_lt_of_cell h0
  exact ⟨(hb.cell (p := ⟨g, off + i * 2, none⟩) hg).trans h0, (hb.cell (p := ⟨g, off + i * 2 + 1, none⟩) hg).trans h1⟩
theorem take_succ (l : List S28) (k : Nat) (h : k < l.length) : l.take (k + 1) = l.take k ++ [l.getD k zS] := by
  rw [getD_at l zS k h, List.take_succ_eq_append_getElem h]
theorem okl_step {l : List S28} {k p : Nat} (h : OKL (l.take k)) (hk : k < l.length) (hr : right (l.getD k zS)) (hp : (l.getD k zS).f1 = (p : Int)) (hin : isIn (l.take k) p = false) (ho : k = 0 ∨ ltF (l.getD (k - 1) zS) (l.getD k zS)) : OKL (l.take (k + 1)) := by
  rw [take_succ l k hk]
  obtain ⟨h1, h2, h3⟩ := h
  have hall : ∀ y ∈ l.take k, ltF y (l.getD k zS) := by
    intro y hy
    rcases ho with rfl | ho
    · simp at hy
    · obtain ⟨j, hj, rfl⟩ := List.getElem_of_mem hy
      have hj' : j < k := by simp at hj; omega
      rcases Nat.lt_or_ge j (k - 1) with hlt | hge
      · have := sorted_get h2 hlt (by simp; omega)
        have e1 : (l.take k).getD j zS = (l.take k)[j] := getD_at _ _ _ hj
        have e2 : (l.take k).getD (k - 1) zS = l.getD (k - 1) zS := by
          rw [getD_at _ _ _ (by simp; omega), getD_at _ _ _ (by omega), List.getElem_take]
        rw [e1, e2] at this
        exact ltF_trans this ho
      · have e : j = k - 1 := by omega
        subst e
        rw [List.getElem_take, ← getD_at l zS _ (by omega)]
        exact ho
  refine ⟨fun x hx => ?_, ?_, ?_⟩
  · rcases List.mem_append.1 hx with hx | hx
    · exact h1 x hx
    · rw [List.mem_singleton.1 hx]; exact hr
  · rw [List.pairwise_append]
    exact ⟨h2, List.pairwise_singleton _ _, fun a ha b hb => by rw [List.mem_singleton.1 hb]; exact hall a ha⟩
  · rw [List.pairwise_append]
    refine ⟨h3, List.pairwise_singleton _ _, fun a ha b hb e => ?_⟩
    rw [List.mem_singleton.1 hb] at e
    have : isIn (l.take k) p = true := isIn_iff.2 ⟨a, ha, by rw [e, hp]⟩
    rw [hin] at this
    cases this
theorem okl_take {l : List S28} (h : OKL l) (k : Nat) : OKL (l.take k) := ⟨fun x hx => h.1 x (List.mem_of_mem_take hx), h.2.1.sublist (List.take_sublist _ _), h.2.2.sublist (List.take_sublist _ _)⟩
theorem okl_right {l : List S28} (h : OKL l) {k : Nat} (hk : k < l.length) : right (l.getD k zS) := by rw [getD_at l zS k hk]; exact h.1 _ (List.getElem_mem hk)
theorem okl_in {l : List S28} (h : OKL l) {k p : Nat} (hk : k < l.length) (hp : (l.getD k zS).f1 = (p : Int)) : isIn (l.take k) p = false := by
  cases hc : isIn (l.take k) p with
  | false => rfl
  | true =>
    obtain ⟨x, hx, e⟩ := isIn_iff.1 hc
    have h3 := (okl_take h (k + 1)).2.2
    rw [take_succ l k hk, List.pairwise_append] at h3
    exact absurd (e.trans hp.symm) (h3.2.2 x hx _ (by simp))
theorem okl_lt {l : List S28} (h : OKL l) {k : Nat} (hk : k < l.length) (h0 : 0 < k) : ltF (l.getD (k - 1) zS) (l.getD k zS) := sorted_get h.2.1 (by omega) hk
theorem isIn_take {l : List S28} {k : Nat} (hk : k < l.length) (q : Nat) : isIn (l.take (k + 1)) q = (decide ((l.getD k zS).f1 = (q : Int)) || isIn (l.take k) q) := by
  rw [take_succ l k hk]
  unfold isIn
  rw [List.any_append, Bool.or_comm]
  simp
  rfl
end Go.Proofs.Ytcoddeemfdnjpaa.Free
