/- The plain law of FreePlays: the reference's list (as the pages came) against the list in order. -/
import Derived.Test.YtcoddeemfdnjpaaFreeAll
namespace Go.Proofs.Ytcoddeemfdnjpaa.Free
open Go.RowKit Go.Lib Go.Proofs.Ytcoddeemfdnjpaa.Fn
theorem hasB_perm {r l : List S28} (h : r.Perm l) (n : Int) : hasB r n = hasB l n := by
  unfold hasB
  rw [Bool.eq_iff_iff, List.any_eq_true, List.any_eq_true]
  exact ⟨fun ⟨x, hx, he⟩ => ⟨x, h.mem_iff.1 hx, he⟩, fun ⟨x, hx, he⟩ => ⟨x, h.mem_iff.2 hx, he⟩⟩
/-- what the reference's 'Add' tells and leaves -/
def refAddE (l : List S28) (f : S28) : Int := if right f then (if hasB l f.f1 = true then 8 else 0) else 1
def refAddL (l : List S28) (f : S28) : List S28 := if right f ∧ hasB l f.f1 = false then l ++ [f] else l
theorem refAdd_same {r l : List S28} (h : r.Perm l) (f : S28) : refAddE r f = addE l f ∧ (refAddL r f).Perm (addL l f) := by
  unfold refAddE refAddL addE addL
  rw [hasB_perm h]
  by_cases hr : right f
  · have e : hasB l f.f1 = isIn l f.f1.toNat := by
      have : f.f1 = ((f.f1.toNat : Nat) : Int) := by unfold right at hr; omega
      rw [this]; exact hasB_nat _ _
    rw [e]
    refine ⟨rfl, ?_⟩
    by_cases hi : isIn l f.f1.toNat = false
    · rw [if_pos ⟨hr, hi⟩, if_pos ⟨hr, hi⟩]
      have h1 : (r ++ [f]).Perm (f :: l) := (List.perm_append_comm (l₁ := r) (l₂ := [f])).trans (h.cons f)
      refine h1.trans ?_
      unfold ins
      refine List.Perm.trans ?_ (List.perm_middle (a := f) (l₁ := l.take (pos l f)) (l₂ := l.drop (pos l f))).symm
      rw [List.take_append_drop]
    · rw [if_neg (fun hc => hi hc.2), if_neg (fun hc => hi hc.2)]
      exact h
  · simp [hr]
    exact h
theorem ltF_asymm {a b : S28} (h : ltF a b) : ¬ ltF b a := by unfold ltF at *; omega
/-- the reference's search, when k pages have been looked at: 'a' is the place of the least one so far -/
def Best (r : List S28) (n : Int) (k : Nat) (a : Int) : Prop :=
  (a = -1 ∧ ∀ i (h : i < r.length), i < k → n < r[i].f0) ∨
    ∃ j : Nat, ∃ h : j < r.length, a = (j : Int) ∧ j < k ∧ r[j].f0 ≤ n ∧ ∀ i (h' : i < r.length), i < k → r[i].f0 ≤ n → ¬ ltF r[i] r[j]
theorem Best.zero (r : List S28) (n : Int) : Best r n 0 (-1) := .inl ⟨rfl, fun _ _ h => absurd h (Nat.not_lt_zero _)⟩
theorem Best.late {r : List S28} {n a : Int} {k : Nat} (h : Best r n k a) (hk : k < r.length) (hl : n < r[k].f0) : Best r n (k + 1) a := by
  rcases h with ⟨rfl, h⟩ | ⟨j, hj, rfl, h1, h2, h3⟩
  · refine .inl ⟨rfl, fun i hi hik => ?_⟩
    rcases Nat.lt_or_ge i k with h' | h'
    · exact h i hi h'
    · obtain rfl : i = k := by omega
      exact hl
  · refine .inr ⟨j, hj, rfl, by omega, h2, fun i hi hik hin => ?_⟩
    rcases Nat.lt_or_ge i k with h' | h'
    · exact h3 i hi h' hin
    · obtain rfl : i = k := by omega
      omega
theorem Best.first {r : List S28} {n : Int} {k : Nat} (h : Best r n k (-1)) (hk : k < r.length) (hl : r[k].f0 ≤ n) : Best r n (k + 1) (k : Int) := by
  rcases h with ⟨_, h⟩ | ⟨j, hj, e, _⟩
  · refine .inr ⟨k, hk, rfl, by omega, hl, fun i hi hik hin => ?_⟩
    rcases Nat.lt_or_ge i k with h' | h'
    · have := h i hi h'; omega
    · obtain rfl : i = k := by omega
      unfold ltF; omega
  · omega
theorem Best.less {r : List S28} {n : Int} {k j : Nat} (h : Best r n k (j : Int)) (hk : k < r.length) (hj : j < r.length) (hl : r[k].f0 ≤ n) (hlt : ltF r[k] r[j]) : Best r n (k + 1) (k : Int) := by
  rcases h with ⟨e, _⟩ | ⟨j', hj', e, h1, h2, h3⟩
  · omega
  · obtain rfl : j = j' := by omega
    refine .inr ⟨k, hk, rfl, by omega, hl, fun i hi hik hin => ?_⟩
    rcases Nat.lt_or_ge i k with h' | h'
    · have := h3 i hi h' hin
      intro hc
      exact this (ltF_trans hc hlt)
    · obtain rfl : i = k := by omega
      unfold ltF; omega
theorem Best.more {r : List S28} {n : Int} {k j : Nat} (h : Best r n k (j : Int)) (hk : k < r.length) (hj : j < r.length) (hlt : ¬ ltF r[k] r[j]) : Best r n (k + 1) (j : Int) := by
  rcases h with ⟨e, _⟩ | ⟨j', hj', e, h1, h2, h3⟩
  · omega
  · obtain rfl : j = j' := by omega
    refine .inr ⟨j, hj, rfl, by omega, h2, fun i hi hik hin => ?_⟩
    rcases Nat.lt_or_ge i k with h' | h'
    · exact h3 i hi h' hin
    · obtain rfl : i = k := by omega
      exact hlt
/-- where it stands is a page of the list, or nowhere -/
theorem Best.cases {r : List S28} {n a : Int} {k : Nat} (h : Best r n k a) : a = -1 ∨ ∃ j : Nat, a = (j : Int) ∧ j < r.length ∧ j < k := by
  rcases h with ⟨rfl, _⟩ | ⟨j, hj, rfl, h1, _⟩
  · exact .inl rfl
  · exact .inr ⟨j, rfl, hj, h1⟩
/-- the pages but for the one at j, when k pages have been looked at -/
def skip (r : List S28) (j k : Nat) : List S28 := (r.take k).eraseIdx j
theorem skip_zero (r : List S28) (j : Nat) : skip r j 0 = [] := by simp [skip]
theorem skip_at (r : List S28) (j : Nat) (hj : j < r.length) : skip r j (j + 1) = skip r j j := by
  unfold skip
  have h1 : (r.take j).length = j := by rw [List.length_take, Nat.min_eq_left (Nat.le_of_lt hj)]
  have h2 : (r.take j).eraseIdx j = r.take j := List.eraseIdx_of_length_le (by rw [h1]; exact Nat.le_refl _)
  rw [List.take_succ_eq_append_getElem hj, List.eraseIdx_append_of_length_le (by rw [h1]; exact Nat.le_refl _), h2, h1]
  simp
theorem skip_ne (r : List S28) (j k : Nat) (hk : k < r.length) (h : k ≠ j) : skip r j (k + 1) = skip r j k ++ [r[k]] := by
  unfold skip
  rw [List.take_succ_eq_append_getElem hk]
  have h1 : (r.take k).length = k := by rw [List.length_take, Nat.min_eq_left (Nat.le_of_lt hk)]
  rcases Nat.lt_or_ge j k with h' | h'
  · rw [List.eraseIdx_append_of_lt_length (by rw [h1]; exact h')]
  · have h2 : k < j := by omega
    rw [List.eraseIdx_of_length_le (by rw [List.length_append, h1]; simp; omega), List.eraseIdx_of_length_le (by rw [h1]; omega)]
theorem skip_len (r : List S28) (j k : Nat) (hk : k ≤ r.length) : (skip r j k).length ≤ k := by
  unfold skip
  exact Nat.le_trans (List.length_eraseIdx_le _ _) (by simp; omega)
theorem skip_perm (r : List S28) (j : Nat) (hj : j < r.length) : (r[j] :: skip r j r.length).Perm r := by
  unfold skip
  rw [List.take_length, List.eraseIdx_eq_take_drop_succ]
  refine (List.perm_middle (a := r[j]) (l₁ := r.take j) (l₂ := r.drop (j + 1))).symm.trans ?_
  rw [List.getElem_cons_drop, List.take_append_drop]
/-- nowhere: nothing may be taken -/
theorem best_none {r l : List S28} {n : Int} (h : r.Perm l) (hb : Best r n r.length (-1)) : takeB l n = false ∧ takeP l n = 0 ∧ takeL l n = l := by
  rcases hb with ⟨_, hb⟩ | ⟨j, _, e, _⟩
  · cases l with
    | nil => exact ⟨rfl, rfl, rfl⟩
    | cons x t =>
      obtain ⟨i, hi, he⟩ := List.mem_iff_getElem.1 (h.mem_iff.2 (List.mem_cons_self : x ∈ x :: t))
      have := hb i hi hi
      rw [he] at this
      have hx : ¬ x.f0 ≤ n := Int.not_le.2 this
      simp [takeB, takeP, takeL, hx]
  · omega
/-- at j: the first page of the list in order -/
theorem best_some {r l : List S28} {n : Int} {j : Nat} (h : r.Perm l) (hs : l.Pairwise ltF) (hj : j < r.length) (hb : Best r n r.length (j : Int)) :
    takeB l n = true ∧ takeP l n = r[j].f1 ∧ (skip r j r.length).Perm (takeL l n) := by
  rcases hb with ⟨e, _⟩ | ⟨j', hj', e, _, h2, h3⟩
  · omega
  · obtain rfl : j = j' := by omega
    cases l with
    | nil => have := h.length_eq; rw [List.length_nil] at this; omega
    | cons x t =>
      obtain ⟨hs1, hs2⟩ := List.pairwise_cons.1 hs
      obtain ⟨i, hi, he⟩ := List.mem_iff_getElem.1 (h.mem_iff.2 (List.mem_cons_self : x ∈ x :: t))
      have hm : r[j] ∈ x :: t := h.mem_iff.1 (List.getElem_mem hj)
      have hx : r[j] = x := by
        rcases List.mem_cons.1 hm with e | hm
        · exact e
        · have hlt := hs1 _ hm
          have hxn : r[i].f0 ≤ n := by rw [he]; unfold ltF at hlt; omega
          have := h3 i hi hi hxn
          rw [he] at this
          exact absurd hlt this
      have hxn : x.f0 ≤ n := by rw [← hx]; exact h2
      have hp : (x :: skip r j r.length).Perm (x :: t) := by rw [← hx]; rw [hx]; exact ((hx ▸ skip_perm r j hj : (x :: skip r j r.length).Perm r)).trans h
      simp only [takeB, takeP, takeL, hxn, decide_true, if_true, true_and]
      exact ⟨by rw [hx], hp.cons_inv⟩
theorem eq_of_sorted {a b : List S28} (h : a.Perm b) (ha : a.Pairwise ltF) (hb : b.Pairwise ltF) : a = b := by
  induction a generalizing b with
  | nil => exact (List.nil_perm.1 h).symm
  | cons x r ih =>
    cases b with
    | nil => exact absurd h.length_eq (by simp)
    | cons y t =>
      obtain ⟨a1, a2⟩ := List.pairwise_cons.1 ha
      obtain ⟨b1, b2⟩ := List.pairwise_cons.1 hb
      have e : x = y := by
        rcases List.mem_cons.1 (h.mem_iff.1 (List.mem_cons_self : x ∈ x :: r)) with e | hx
        · exact e
        · rcases List.mem_cons.1 (h.mem_iff.2 (List.mem_cons_self : y ∈ y :: t)) with e | hy
          · exact e.symm
          · exact absurd (b1 _ hx) (ltF_asymm (a1 _ hy))
      subst e
      rw [ih h.cons_inv a2 b2]
#print axioms best_some
end Go.Proofs.Ytcoddeemfdnjpaa.Free
