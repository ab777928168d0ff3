/- The reference's Sorted: what it gives is the list in order. -/
import Derived.Test.YtcoddeemfdnjpaaFn23
import Derived.Test.YtcoddeemfdnjpaaFreePlayPlain
namespace Go.Proofs.Ytcoddeemfdnjpaa.Free
open Go.RowKit Go.Lib Go.Proofs.Ytcoddeemfdnjpaa.Fn
open Go.Proofs.YtcoddeemfdnjpaaW.PrintWords Go.Proofs.YtcoddeemfdnjpaaW.PrintLast
theorem less_val (a b : S28) : rollbookref08_Less.f a.f0 a.f1 b.f0 b.f1 = some (decide (ltF a b)) := by
  unfold rollbookref08_Less.f
  by_cases h1 : a.f0 < b.f0
  · simp [h1, ltF]
  · by_cases h2 : a.f0 = b.f0
    · simp [h2, ltF]
    · simp [h1, h2, ltF]
theorem rd_get (l : List S28) (j : Nat) (h : j < l.length) : rd_T28 l (j : Int) = l[j] := getD_at l z28 j h
theorem w64s {x : Int} (h1 : 0 ≤ x) (h2 : x ≤ 100000) : wrap64 x = x := by unfold wrap64; omega
theorem pos_at (l : List S28) (f : S28) (h : l.Pairwise ltF) (j : Nat) (hj : j ≤ l.length) (h1 : ∀ t (h : t < l.length), t < j → ltF l[t] f) (h2 : ∀ h : j < l.length, ¬ ltF l[j] f) : pos l f = j := by
  unfold pos
  refine countP_at _ zS l j hj (fun t ht => ?_) (fun t ht hl => ?_)
  · rw [getD_at _ _ _ (by omega)]
    exact decide_eq_true (h1 t (by omega) ht)
  · rw [getD_at _ _ _ hl]
    refine decide_eq_false (fun hc => ?_)
    rcases Nat.lt_or_ge j t with h' | h'
    · exact h2 (by omega) (ltF_trans (List.pairwise_iff_getElem.1 h j t (by omega) hl h') hc)
    · obtain rfl : t = j := by omega
      exact h2 hl hc
theorem ins_eq (l : List S28) (j : Nat) (f : S28) : ([] ++ l.take j ++ [f]) ++ l.drop j = ins l j f := by unfold ins; simp
theorem sort_in (r out l : List S28) (i : Nat) (hi : i < r.length) (hN : r.length ≤ 1000) (ho : out.length ≤ 1000) (K : Nat) (hs : out.Pairwise ltF)
    (hnext : ∀ k, K ≤ k → rollbookref08_Sorted.l0 k r (ins out (pos out r[i]) r[i]) ((i + 1 : Nat) : Int) = some l) :
    ∀ (e j k : Nat), j + e = out.length → (∀ t (h : t < out.length), t < j → ltF out[t] r[i]) → K + e + 1 ≤ k → rollbookref08_Sorted.l1 k r out (i : Int) (j : Int) = some l
  | 0, j, k, hj, hl, hk => by
    obtain ⟨k, rfl⟩ : ∃ q, k = q + 1 := ⟨k - 1, by omega⟩
    have hp : pos out r[i] = j := pos_at out _ hs j (by omega) hl (fun h => by omega)
    have e1 : wrap64 ((i : Int) + 1) = ((i + 1 : Nat) : Int) := by rw [w64s (by omega) (by omega)]; rfl
    have e2 : ((j : Int)).toNat = j := by omega
    have l1 : ([] : List S28).length + (out.take j).length < 8796093022208 := by simp; omega
    have l2 : ([] ++ out.take j).length < 8796093022208 := by simp; omega
    have l3 : ([] ++ out.take j ++ [r[i]]).length + (out.drop j).length < 8796093022208 := by simp; omega
    have h1 : ¬ ((j : Int) < (out.length : Int)) := by omega
    have h2 : (0 : Int) ≤ (j : Int) := by omega
    have h3 : (j : Int) ≤ (out.length : Int) := by omega
    have h4 : (0 : Int) ≤ (i : Int) := by omega
    have h5 : (i : Int) < (r.length : Int) := by omega
    have hn := hnext k (by omega)
    rw [hp, ← ins_eq] at hn
    rw [rollbookref08_Sorted.l1, if_neg h1]
    simp only [Option.bind_some, e2, rd_get r i hi, e1]
    rw [if_pos h2, if_pos h3, if_pos l1, if_pos h4, if_pos h5, if_pos l2, if_pos l3]
    exact hn
  | e + 1, j, k, hj, hl, hk => by
    obtain ⟨k, rfl⟩ : ∃ q, k = q + 1 := ⟨k - 1, by omega⟩
    have hjl : j < out.length := by omega
    have e1 : wrap64 ((j : Int) + 1) = ((j + 1 : Nat) : Int) := by rw [w64s (by omega) (by omega)]; rfl
    have e3 : wrap64 ((i : Int) + 1) = ((i + 1 : Nat) : Int) := by rw [w64s (by omega) (by omega)]; rfl
    have e2 : ((j : Int)).toNat = j := by omega
    have h1 : ((j : Int) < (out.length : Int)) := by omega
    have h2 : (0 : Int) ≤ (j : Int) := by omega
    have h3 : (j : Int) ≤ (out.length : Int) := by omega
    have h4 : (0 : Int) ≤ (i : Int) := by omega
    have h5 : (i : Int) < (r.length : Int) := by omega
    rw [rollbookref08_Sorted.l1, if_pos h1, if_pos h2, if_pos h4, if_pos h5]
    rw [rd_get r i hi, rd_get out j hjl, less_val]
    by_cases hlt : ltF out[j] r[i]
    · rw [decide_eq_true hlt]
      simp only [Option.bind_some]
      rw [if_pos trivial, e1]
      refine sort_in r out l i hi hN ho K hs hnext e (j + 1) k (by omega) (fun t h ht => ?_) (by omega)
      rcases Nat.lt_or_ge t j with h' | h'
      · exact hl t h h'
      · obtain rfl : t = j := by omega
        exact hlt
    · have hp : pos out r[i] = j := pos_at out _ hs j (by omega) hl (fun _ => hlt)
      have l1 : ([] : List S28).length + (out.take j).length < 8796093022208 := by simp; omega
      have l2 : ([] ++ out.take j).length < 8796093022208 := by simp; omega
      have l3 : ([] ++ out.take j ++ [r[i]]).length + (out.drop j).length < 8796093022208 := by simp; omega
      have hn := hnext k (by omega)
      rw [hp, ← ins_eq] at hn
      rw [decide_eq_false hlt]
      simp only [Option.bind_some, e2, e3]
      rw [if_neg (fun h => Bool.noConfusion h), if_pos h3, if_pos l1, if_pos l2, if_pos l3]
      exact hn
theorem ins_perm (l : List S28) (j : Nat) (f : S28) : (ins l j f).Perm (f :: l) := by
  unfold ins
  refine (List.perm_middle (a := f) (l₁ := l.take j) (l₂ := l.drop j)).trans ?_
  rw [List.take_append_drop]
theorem sort_out (r l : List S28) (hN : r.length ≤ 1000) (hp : r.Perm l) (hs : l.Pairwise ltF) (ha : r.Pairwise (fun x y => x.f1 ≠ y.f1)) (F : Nat) (hF : 1002 ≤ F) :
    ∀ (d i k : Nat) (out : List S28), i + d = r.length → out.Perm (r.take i) → out.Pairwise ltF → d * F + 1 ≤ k → rollbookref08_Sorted.l0 k r out (i : Int) = some l
  | 0, i, k, out, hi, ho, hso, hk => by
    obtain ⟨k, rfl⟩ : ∃ q, k = q + 1 := ⟨k - 1, by omega⟩
    rw [rollbookref08_Sorted.l0, if_neg (by omega)]
    rw [show i = r.length by omega, List.take_length] at ho
    rw [eq_of_sorted (ho.trans hp) hso hs]
  | d + 1, i, k, out, hi, ho, hso, hk => by
    obtain ⟨k, rfl⟩ : ∃ q, k = q + 1 := ⟨k - 1, by omega⟩
    have hil : i < r.length := by omega
    have hdF : (d + 1) * F = d * F + F := Nat.succ_mul d F
    have hol : out.length = i := by rw [ho.length_eq, List.length_take]; omega
    rw [rollbookref08_Sorted.l0, if_pos (by omega)]
    refine sort_in r out l i hil hN (by omega) (d * F + 1) hso (fun k' hk' => ?_) out.length 0 k (by omega) (fun t _ ht => absurd ht (Nat.not_lt_zero _)) (by omega)
    refine sort_out r l hN hp hs ha F hF d (i + 1) k' _ (by omega) ?_ ?_ hk'
    · rw [List.take_succ_eq_append_getElem hil]
      exact (ins_perm _ _ _).trans ((ho.cons _).trans (List.perm_append_comm (l₁ := [r[i]]) (l₂ := r.take i)))
    · refine sorted_ins hso (fun x hx => ?_)
      obtain ⟨t, ht, rfl⟩ := List.mem_iff_getElem.1 (ho.mem_iff.1 hx)
      rw [List.length_take] at ht
      rw [List.getElem_take]
      exact List.pairwise_iff_getElem.1 ha t i (by omega) hil (by omega)
theorem sorted_f (r l : List S28) (hN : r.length ≤ 1000) (hp : r.Perm l) (hs : l.Pairwise ltF) (ha : l.Pairwise (fun x y => x.f1 ≠ y.f1)) : ∃ K, rollbookref08_Sorted.f K r = some l := by
  obtain ⟨F, hF⟩ : ∃ F, F = 1002 := ⟨_, rfl⟩
  refine ⟨r.length * F + 1, ?_⟩
  unfold rollbookref08_Sorted.f
  exact sort_out r l hN hp hs ((hp.pairwise_iff (fun h e => h e.symm)).2 ha) F (by omega) r.length 0 _ [] (by omega) (by rw [List.take_zero]) .nil (Nat.le_refl _)
#print axioms sorted_f
end Go.Proofs.Ytcoddeemfdnjpaa.Free
