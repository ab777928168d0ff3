/- The plain law of replacing, splitting and cutting: each told by its first byte. -/
import Derived.Lib.Replace
import Derived.Lib.Split
import Derived.Lib.Join
namespace Go.Proofs.YtcoddeemfdnjpaaDoor.TextPlain
open Go.Lib
theorem index_nil {sub : List UInt8} (h : sub ≠ []) : index [] sub = -1 := by
  cases sub with
  | nil => exact absurd rfl h
  | cons _ _ => rfl
theorem index_pos {b : UInt8} {l sub : List UInt8} (h : sub.isPrefixOf (b :: l) = true) : index (b :: l) sub = 0 := by rw [index, if_pos h]
theorem index_neg {b : UInt8} {l sub : List UInt8} (h : sub.isPrefixOf (b :: l) = false) : index (b :: l) sub = if index l sub = -1 then -1 else index l sub + 1 := by
  rw [index, if_neg (by simp [h])]
  by_cases c : index l sub = -1 <;> simp [c]
theorem rep_nil (old new : List UInt8) (h : old ≠ []) (hn : old ≠ new) : replaceAll [] old new = [] := by
  unfold replaceAll replace
  rw [if_neg (by simpa using hn)]
  unfold replaceNum
  rw [if_pos (Or.inl (by decide)), count_miss (index_nil h)]
  rfl
theorem rep_hit (old new : List UInt8) (h : old ≠ []) (hn : old ≠ new) (b : UInt8) (l : List UInt8) (hp : old.isPrefixOf (b :: l) = true) : replaceAll (b :: l) old new = new ++ replaceAll ((b :: l).drop old.length) old new := by
  unfold replaceAll replace
  rw [if_neg (by simpa using hn), if_neg (by simpa using hn)]
  unfold replaceNum
  rw [if_pos (Or.inl (by decide)), if_pos (Or.inl (by decide)), count_hit (i := 0) h (index_pos hp), Nat.add_comm, replaceK_hit old new _ _ 0 (index_pos hp)]
  simp
theorem rep_miss (old new : List UInt8) (h : old ≠ []) (hn : old ≠ new) (b : UInt8) (l : List UInt8) (hp : old.isPrefixOf (b :: l) = false) : replaceAll (b :: l) old new = b :: replaceAll l old new := by
  unfold replaceAll replace
  rw [if_neg (by simpa using hn), if_neg (by simpa using hn)]
  unfold replaceNum
  rw [if_pos (Or.inl (by decide)), if_pos (Or.inl (by decide))]
  by_cases c : index l old = -1
  · have c2 : index (b :: l) old = -1 := by rw [index_neg hp, if_pos c]
    rw [count_miss c, count_miss c2]
    rfl
  · have hge := index_ge l old
    obtain ⟨i, hi⟩ : ∃ i : Nat, index l old = i := ⟨(index l old).toNat, by omega⟩
    have c2 : index (b :: l) old = ((i + 1 : Nat) : Int) := by rw [index_neg hp, if_neg c, hi]; omega
    rw [count_hit h c2, count_hit h hi, Nat.add_comm, Nat.add_comm 1 (count (l.drop (i + old.length)) old), replaceK_hit old new _ _ _ c2, replaceK_hit old new _ _ _ hi]
    have e : (b :: l).drop (i + 1 + old.length) = l.drop (i + old.length) := by rw [show i + 1 + old.length = i + old.length + 1 by omega]; rfl
    rw [e]
    simp
theorem split_nil (sep : List UInt8) (h : sep ≠ []) : split [] sep = [[]] := by
  unfold split
  rw [count_miss (index_nil h)]
  rfl
theorem split_hit (sep : List UInt8) (h : sep ≠ []) (b : UInt8) (l : List UInt8) (hp : sep.isPrefixOf (b :: l) = true) : split (b :: l) sep = [] :: split ((b :: l).drop sep.length) sep := by
  unfold split
  rw [count_hit (i := 0) h (index_pos hp), Nat.add_comm, splitK, if_neg (by rw [index_pos hp]; decide), index_pos hp]
  simp
theorem split_miss (sep : List UInt8) (h : sep ≠ []) (b : UInt8) (l : List UInt8) (hp : sep.isPrefixOf (b :: l) = false) :
    ∃ x r, split l sep = x :: r ∧ split (b :: l) sep = (b :: x) :: r := by
  unfold split
  by_cases c : index l sep = -1
  · have c2 : index (b :: l) sep = -1 := by rw [index_neg hp, if_pos c]
    rw [count_miss c, count_miss c2]
    exact ⟨_, _, rfl, rfl⟩
  · have hge := index_ge l sep
    obtain ⟨i, hi⟩ : ∃ i : Nat, index l sep = i := ⟨(index l sep).toNat, by omega⟩
    have c2 : index (b :: l) sep = ((i + 1 : Nat) : Int) := by rw [index_neg hp, if_neg c, hi]; omega
    rw [count_hit h c2, count_hit h hi, Nat.add_comm 1, Nat.add_comm 1, splitK, splitK, if_neg (by rw [hi]; simp), if_neg (by rw [c2]; simp; omega), c2, hi]
    have e : (b :: l).drop (i + 1 + sep.length) = l.drop (i + sep.length) := by rw [show i + 1 + sep.length = i + sep.length + 1 by omega]; rfl
    refine ⟨_, _, rfl, ?_⟩
    simp [e]
theorem cut_nil (sep : List UInt8) (h : sep ≠ []) : cut [] sep = ([], [], false) := by
  unfold cut
  rw [index_nil h]
  rfl
theorem cut_hit (sep : List UInt8) (b : UInt8) (l : List UInt8) (hp : sep.isPrefixOf (b :: l) = true) : cut (b :: l) sep = ([], (b :: l).drop sep.length, true) := by
  unfold cut
  rw [index_pos hp]
  simp
theorem cut_miss (sep : List UInt8) (b : UInt8) (l : List UInt8) (hp : sep.isPrefixOf (b :: l) = false) : cut (b :: l) sep = (b :: (cut l sep).1, (cut l sep).2.1, (cut l sep).2.2) := by
  unfold cut
  by_cases c : index l sep = -1
  · have c2 : index (b :: l) sep = -1 := by rw [index_neg hp, if_pos c]
    rw [c, c2]
    rfl
  · have hge := index_ge l sep
    obtain ⟨i, hi⟩ : ∃ i : Nat, index l sep = i := ⟨(index l sep).toNat, by omega⟩
    have c2 : index (b :: l) sep = ((i + 1 : Nat) : Int) := by rw [index_neg hp, if_neg c, hi]; omega
    rw [c2, hi, if_pos (by omega), if_pos (by omega)]
    have e : (b :: l).drop (i + 1 + sep.length) = l.drop (i + sep.length) := by rw [show i + 1 + sep.length = i + sep.length + 1 by omega]; rfl
    simp [e]
/-- a part, as a tuple bears it -/
def escL : List UInt8 → List UInt8
  | [] => []
  | b :: l => if b = 0 then 0 :: 255 :: escL l else b :: escL l
theorem rep_esc (l : List UInt8) : replaceAll l [0] [0, 255] = escL l := by
  induction l with
  | nil => exact rep_nil _ _ (by decide) (by decide)
  | cons b l ih =>
    by_cases h : b = 0
    · subst h
      rw [rep_hit _ _ (by decide) (by decide) _ _ (by simp)]
      simp [escL, ih]
    · rw [rep_miss [0] [0, 255] (by decide) (by decide) b l (by simp [List.isPrefixOf, Ne.symm h])]
      simp [escL, ih, h]
theorem escL_length (l : List UInt8) : (escL l).length = l.length + l.count 0 := by
  induction l with
  | nil => rfl
  | cons b l ih =>
    unfold escL
    by_cases h : b = 0
    · subst h; simp [ih]; omega
    · rw [if_neg h, List.count_cons_of_ne h, List.length_cons, List.length_cons, ih]; omega
/-- the bytes of a list of parts -/
def tupL (l : List (List UInt8)) : List UInt8 := l.flatMap fun p => escL p ++ [0, 1]
theorem tupL_snoc (l : List (List UInt8)) (p : List UInt8) : tupL (l ++ [p]) = tupL l ++ (escL p ++ [0, 1]) := by simp [tupL]
theorem tupL_le (l : List (List UInt8)) (p : List UInt8) (h : p ∈ l) : p.length + 2 ≤ (tupL l).length := by
  induction l with
  | nil => simp at h
  | cons q l ih =>
    have e : tupL (q :: l) = escL q ++ [0, 1] ++ tupL l := by simp [tupL]
    rw [e]
    simp only [List.mem_cons] at h
    simp only [List.length_append, List.length_cons, List.length_nil, escL_length]
    rcases h with rfl | h
    · omega
    · have := ih h; omega
theorem tupL_take_le (l : List (List UInt8)) (k : Nat) : (tupL (l.take k)).length ≤ (tupL l).length := by
  have e : tupL l = tupL (l.take k) ++ tupL (l.drop k) := by
    unfold tupL
    rw [← List.flatMap_append, List.take_append_drop]
  rw [e]; simp
end Go.Proofs.YtcoddeemfdnjpaaDoor.TextPlain
