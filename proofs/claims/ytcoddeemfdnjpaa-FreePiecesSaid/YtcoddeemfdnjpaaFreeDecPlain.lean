/- The plain law of pieces: their bytes; what the reference makes of a list. -/
import Derived.Test.YtcoddeemfdnjpaaNumBytes
import Derived.Test.YtcoddeemfdnjpaaFn25
import Derived.Test.YtcoddeemfdnjpaaFreePlain
import Derived.Test.YtcoddeemfdnjpaaFn27
import Derived.Test.YtcoddeemfdnjpaaFn21
namespace Go.Proofs.Ytcoddeemfdnjpaa.Free
open Go.RowKit Go.Lib CrcPlain NumPlain FieldPlain PagePlain
open Go.Proofs.Ytcoddeemfdnjpaa.Fn
open Go.Proofs.YtcoddeemfdnjpaaW.PrintWords hiding nums nums_length nums_append
/-- a piece's bytes: one free page -/
def oneB (x : S28) : ByteArray := numB 8 x.f0.toNat ++ numB 4 x.f1.toNat
def pagesB : List S28 → ByteArray
  | [] => ⟨#[]⟩
  | x :: r => oneB x ++ pagesB r
def pieceB (next : Int) (l : List S28) : ByteArray := numB 4 next.toNat ++ numB 2 l.length ++ pagesB l
theorem empty_append (s : ByteArray) : (⟨#[]⟩ : ByteArray) ++ s = s := by
  apply nums_inj; rw [nums_append]; rfl
theorem append_empty (s : ByteArray) : s ++ (⟨#[]⟩ : ByteArray) = s := by
  apply nums_inj; rw [nums_append]; show nums s ++ [] = _; simp
theorem oneB_size (x : S28) : (oneB x).size = 12 := by unfold oneB; rw [ByteArray.size_append, numB_size, numB_size]
theorem pagesB_size : ∀ l, (pagesB l).size = 12 * l.length
  | [] => rfl
  | x :: r => by rw [pagesB, ByteArray.size_append, oneB_size, pagesB_size r, List.length_cons]; omega
theorem pieceB_size (next : Int) (l : List S28) : (pieceB next l).size = 6 + 12 * l.length := by
  unfold pieceB; rw [ByteArray.size_append, ByteArray.size_append, numB_size, numB_size, pagesB_size]
theorem append_assocB (a b c : ByteArray) : a ++ b ++ c = a ++ (b ++ c) := by
  apply nums_inj; simp only [nums_append, List.append_assoc]
theorem pagesB_snoc : ∀ (l : List S28) (x : S28), pagesB (l ++ [x]) = pagesB l ++ oneB x
  | [], x => by show oneB x ++ (⟨#[]⟩ : ByteArray) = (⟨#[]⟩ : ByteArray) ++ oneB x; rw [append_empty, empty_append]
  | y :: r, x => by rw [List.cons_append, pagesB, pagesB_snoc r x, pagesB, append_assocB]

theorem w64i {x : Int} (h1 : -9223372036854775808 ≤ x) (h2 : x ≤ 9223372036854775807) : wrap64 x = x := by unfold wrap64; omega
theorem rd_at (l : List S28) (j : Nat) : rd_T28 l (j : Int) = l.getD j zS := rfl
theorem less_f (a b : S28) : rollbookref08_Less.f a.f0 a.f1 b.f0 b.f1 = some (decide (ltF a b)) := by
  unfold rollbookref08_Less.f ltF
  by_cases h1 : a.f0 < b.f0
  · rw [if_pos h1]; simp [h1]
  · rw [if_neg h1]
    by_cases h2 : a.f0 = b.f0
    · rw [if_pos h2]; simp [h2]
    · rw [if_neg h2]; simp [h1, h2]
theorem refRight_f (x : S28) : rollbookref08_Right.f x.f0 x.f1 = some (decide (right x)) := by
  unfold rollbookref08_Right.f
  by_cases h1 : x.f0 ≥ 0
  · rw [if_pos h1]
    by_cases h2 : x.f0 ≤ 1099511627776
    · rw [if_pos h2]
      by_cases h3 : x.f1 ≥ 1
      · rw [if_pos h3]
        have e : x.f1 ≤ 511 ↔ right x := by unfold right; omega
        congr 1
        exact decide_eq_decide.2 e
      · rw [if_neg h3]; congr 1; exact (decide_eq_false (by unfold right; omega)).symm
    · rw [if_neg h2]; congr 1; exact (decide_eq_false (by unfold right; omega)).symm
  · rw [if_neg h1]; congr 1; exact (decide_eq_false (by unfold right; omega)).symm
theorem num_f (v : Int) (z k : Nat) (h1 : 1 ≤ z) (h8 : z ≤ 8) (h0 : 0 ≤ v) (hn : v < 256 ^ z) (hn2 : v < 9223372036854775808) (hk : 100 ≤ k) : rollbookref04_Number.f k v (z : Int) = some (numB z v.toNat) := by
  have := number_f v.toNat z k h1 h8 (by
    have : (v.toNat : Int) < ((256 ^ z : Nat) : Int) := by rw [Int.toNat_of_nonneg h0]; simpa using hn
    exact_mod_cast this) (by omega) hk
  rwa [Int.toNat_of_nonneg h0] at this
/-- the tests of one element against those ahead of it -/
def Ahead (l : List S28) (i j : Nat) : Prop := ∀ t, j ≤ t → t < i → (l.getD t zS).f1 ≠ (l.getD i zS).f1 ∧ ltF (l.getD t zS) (l.getD i zS)
theorem enc_l1_ok (l : List S28) (s : ByteArray) (i : Nat) (hi : i < l.length) (hn : l.length ≤ 100) (hr : right (l.getD i zS)) (hs : s.size ≤ 90000) : ∀ (d j k : Nat), j + d = i → d + 110 ≤ k → Ahead l i j →
    rollbookref08_Encode.l1 k l s (i : Int) (j : Int) = rollbookref08_Encode.l0 (k - d - 1) l (s ++ oneB (l.getD i zS)) ((i + 1 : Nat) : Int)
  | 0, j, k, hj, hk, hA => by
    obtain ⟨k, rfl⟩ : ∃ q, k = q + 1 := ⟨k - 1, by omega⟩
    obtain rfl : j = i := by omega
    have hrr := hr
    unfold right at hrr
    rw [rollbookref08_Encode.l1, if_neg (by omega), if_pos (by omega), if_pos (by omega), rd_at]
    have n1 : rollbookref04_Number.f k (l.getD j zS).f0 8 = some (numB 8 (l.getD j zS).f0.toNat) := num_f _ 8 k (by decide) (by decide) (by omega) (by omega) (by omega) (by omega)
    have n2 : rollbookref04_Number.f k (l.getD j zS).f1 4 = some (numB 4 (l.getD j zS).f1.toNat) := num_f _ 4 k (by decide) (by decide) (by omega) (by omega) (by omega) (by omega)
    have e1 : wrap64 ((j : Int) + 1) = ((j + 1 : Nat) : Int) := by rw [w64i (by omega) (by omega)]; rfl
    rw [n1, Option.bind_some, if_pos (by rw [numB_size]; omega), n2, Option.bind_some, if_pos (by rw [ByteArray.size_append, numB_size, numB_size]; omega), e1, append_assocB]
    rfl
  | d + 1, j, k, hj, hk, hA => by
    obtain ⟨k, rfl⟩ : ∃ q, k = q + 1 := ⟨k - 1, by omega⟩
    obtain ⟨a1, a2⟩ := hA j (Nat.le_refl _) (by omega)
    have e1 : wrap64 ((j : Int) + 1) = ((j + 1 : Nat) : Int) := by rw [w64i (by omega) (by omega)]; rfl
    rw [rollbookref08_Encode.l1, if_pos (by omega), if_pos (by omega), if_pos (by omega), if_pos (by omega), if_pos (by omega), rd_at, rd_at, if_neg a1, less_f, Option.bind_some, if_pos (decide_eq_true a2), e1,
      enc_l1_ok l s i hi hn hr hs d (j + 1) k (by omega) (by omega) (fun t h1 h2 => hA t (by omega) h2)]
    rw [show k + 1 - (d + 1) - 1 = k - d - 1 by omega]
theorem enc_l1_bad (l : List S28) (s : ByteArray) (i : Nat) (hi : i < l.length) (hn : l.length ≤ 100) : ∀ (d j k : Nat), j + d = i → d + 110 ≤ k → ¬ Ahead l i j →
    rollbookref08_Encode.l1 k l s (i : Int) (j : Int) = some (⟨#[]⟩, 4)
  | 0, j, k, hj, hk, hA => absurd (fun t h1 h2 => by omega : Ahead l i j) hA
  | d + 1, j, k, hj, hk, hA => by
    obtain ⟨k, rfl⟩ : ∃ q, k = q + 1 := ⟨k - 1, by omega⟩
    have e1 : wrap64 ((j : Int) + 1) = ((j + 1 : Nat) : Int) := by rw [w64i (by omega) (by omega)]; rfl
    rw [rollbookref08_Encode.l1, if_pos (by omega), if_pos (by omega), if_pos (by omega), if_pos (by omega), if_pos (by omega), rd_at, rd_at]
    by_cases a1 : (l.getD j zS).f1 = (l.getD i zS).f1
    · rw [if_pos a1]
    · rw [if_neg a1, less_f, Option.bind_some]
      by_cases a2 : ltF (l.getD j zS) (l.getD i zS)
      · rw [if_pos (decide_eq_true a2), e1]
        refine enc_l1_bad l s i hi hn d (j + 1) k (by omega) (by omega) (fun h => hA (fun t h1 h2 => ?_))
        by_cases e : t = j
        · subst e; exact ⟨a1, a2⟩
        · exact h t (by omega) h2
      · rw [if_neg (by simpa using a2)]
theorem ahead_okl {l : List S28} (h : OKL l) {i : Nat} (hi : i < l.length) : Ahead l i 0 := fun t _ ht => ⟨by
    rw [getD_at _ _ _ (by omega), getD_at _ _ _ hi]
    exact List.pairwise_iff_getElem.1 h.2.2 t i (by omega) hi ht, sorted_get h.2.1 ht hi⟩
theorem okl_ahead {l : List S28} {i : Nat} (h : OKL (l.take i)) (hi : i < l.length) (hr : right (l.getD i zS)) (ha : Ahead l i 0) : OKL (l.take (i + 1)) := by
  have hp : (l.getD i zS).f1 = ((l.getD i zS).f1.toNat : Int) := by unfold right at hr; omega
  refine okl_step h hi hr hp ?_ ?_
  · cases hc : isIn (l.take i) (l.getD i zS).f1.toNat with
    | false => rfl
    | true =>
      obtain ⟨x, hx, e⟩ := isIn_iff.1 hc
      obtain ⟨t, ht, rfl⟩ := List.getElem_of_mem hx
      have ht' : t < i := by simp at ht; omega
      rw [List.getElem_take, ← getD_at l zS t (by omega), ← hp] at e
      exact absurd e (ha t (Nat.zero_le _) ht').1
  · rcases Nat.eq_zero_or_pos i with h0 | h0
    · exact .inl h0
    · exact .inr (ha (i - 1) (Nat.zero_le _) (by omega)).2
theorem enc_l0 (l : List S28) (hn : l.length ≤ 100) : ∀ (d i k : Nat) (s : ByteArray), i + d = l.length → d * 110 + 110 ≤ k → s.size + 12 * d ≤ 90000 → OKL (l.take i) →
    rollbookref08_Encode.l0 k l s (i : Int) = some (if OKL l then (s ++ pagesB (l.drop i), 0) else (⟨#[]⟩, 4))
  | 0, i, k, s, hi, hk, hs, hO => by
    obtain ⟨k, rfl⟩ : ∃ q, k = q + 1 := ⟨k - 1, by omega⟩
    rw [List.take_of_length_le (by omega)] at hO
    rw [rollbookref08_Encode.l0, if_neg (by omega), if_pos hO, List.drop_eq_nil_of_le (by omega)]
    show some (s, 0) = some (s ++ (⟨#[]⟩ : ByteArray), 0)
    rw [append_empty]
  | d + 1, i, k, s, hi, hk, hs, hO => by
    obtain ⟨k, rfl⟩ : ∃ q, k = q + 1 := ⟨k - 1, by omega⟩
    have hil : i < l.length := by omega
    rw [rollbookref08_Encode.l0, if_pos (by omega), if_pos (by omega), rd_at, refRight_f, Option.bind_some]
    by_cases hr : right (l.getD i zS)
    · rw [if_pos (decide_eq_true hr)]
      by_cases hA : Ahead l i 0
      · have h1 := enc_l1_ok l s i hil hn hr (by omega) i 0 k (by omega) (by omega) hA
        rw [show ((0 : Nat) : Int) = 0 from rfl] at h1
        rw [h1, enc_l0 l hn d (i + 1) (k - i - 1) _ (by omega) (by omega) (by rw [ByteArray.size_append, oneB_size]; omega) (okl_ahead hO hil hr hA)]
        rw [append_assocB, List.drop_eq_getElem_cons hil, pagesB, ← getD_at l zS i hil]
      · have h1 := enc_l1_bad l s i hil hn i 0 k (by omega) (by omega) hA
        rw [show ((0 : Nat) : Int) = 0 from rfl] at h1
        rw [h1, if_neg (fun h => hA (ahead_okl h hil))]
    · rw [if_neg (by simpa using hr), if_neg (fun h => hr (okl_right h hil))]
/-- what a call of Encode tells -/
def encP (next : Int) (l : List S28) : ByteArray × Int := if mayB next l = true then (pieceB next l, 0) else (⟨#[]⟩, 4)
theorem refEnc_f (next : Int) (l : List S28) (k : Nat) (hk : 20000 ≤ k) : rollbookref08_Encode.f k next l = some (encP next l) := by
  obtain ⟨k, rfl⟩ : ∃ q, k = q + 1 := ⟨k - 1, by omega⟩
  have bad : ∀ b : Bool, b = true → mayB next l = false → rollbookref08_Encode.j0 (k + 1) next l b = some (encP next l) := by
    rintro b rfl h
    rw [rollbookref08_Encode.j0, if_pos rfl, encP, h]
    rfl
  unfold rollbookref08_Encode.f
  by_cases h1 : next < 0
  · rw [if_pos h1]; exact bad _ rfl (decide_eq_false (by omega))
  · rw [if_neg h1]
    by_cases h2 : next > 511
    · rw [if_pos h2]; exact bad _ rfl (decide_eq_false (by omega))
    · rw [if_neg h2]
      by_cases h3 : (l.length : Int) > 40
      · exact bad _ (decide_eq_true h3) (decide_eq_false (by omega))
      · rw [decide_eq_false h3, rollbookref08_Encode.j0, if_neg (by simp)]
        have n1 : rollbookref04_Number.f k next 4 = some (numB 4 next.toNat) := num_f _ 4 k (by decide) (by decide) (by omega) (by omega) (by omega) (by omega)
        have n2 : rollbookref04_Number.f k (l.length : Int) 2 = some (numB 2 l.length) := by
          have := num_f (l.length : Int) 2 k (by decide) (by decide) (by omega) (by omega) (by omega) (by omega)
          rwa [Int.toNat_natCast] at this
        have h0 := enc_l0 l (by omega) l.length 0 k (numB 4 next.toNat ++ numB 2 l.length) (by omega) (by omega) (by rw [ByteArray.size_append, numB_size, numB_size]; omega) ⟨fun x hx => by simp at hx, by simp, by simp⟩
        rw [show ((0 : Nat) : Int) = 0 from rfl, List.drop_zero] at h0
        rw [n1, Option.bind_some, n2, Option.bind_some, if_pos (by rw [numB_size, numB_size]; omega), h0]
        congr 1
        unfold encP
        by_cases hO : OKL l
        · have hM : mayB next l = true := decide_eq_true ⟨by omega, by omega, by omega, hO⟩
          rw [if_pos hO, if_pos hM]; rfl
        · have hM : mayB next l = false := decide_eq_false (fun h => hO h.2.2.2)
          rw [if_neg hO, if_neg (by rw [hM]; simp)]
#print axioms refEnc_f
end Go.Proofs.Ytcoddeemfdnjpaa.Free

namespace Go.Proofs.Ytcoddeemfdnjpaa.Free
open Go.RowKit Go.Lib CrcPlain NumPlain FieldPlain PagePlain
open Go.Proofs.Ytcoddeemfdnjpaa.Fn
open Go.Proofs.YtcoddeemfdnjpaaW.PrintWords hiding nums nums_length nums_append
/-- the free pages that lie in a piece's bytes -/
def getL (s : ByteArray) (m : Nat) : List S28 := (List.range m).map fun i => ⟨takeN s (6 + 12 * i) 8, takeN s (6 + 12 * i + 8) 4⟩
def getM (s : ByteArray) (m : Nat) : List S28 := (List.range m).map fun i => ⟨min (takeN s (6 + 12 * i) 8) 1099511627777, takeN s (6 + 12 * i + 8) 4⟩
theorem getL_succ (s : ByteArray) (m : Nat) : getL s (m + 1) = getL s m ++ [⟨takeN s (6 + 12 * m) 8, takeN s (6 + 12 * m + 8) 4⟩] := by unfold getL; rw [List.range_succ, List.map_append]; rfl
theorem getM_succ (s : ByteArray) (m : Nat) : getM s (m + 1) = getM s m ++ [⟨min (takeN s (6 + 12 * m) 8) 1099511627777, takeN s (6 + 12 * m + 8) 4⟩] := by unfold getM; rw [List.range_succ, List.map_append]; rfl
theorem getL_length (s : ByteArray) (m : Nat) : (getL s m).length = m := by simp [getL]
theorem getM_length (s : ByteArray) (m : Nat) : (getM s m).length = m := by simp [getM]
def Low (s : ByteArray) (i m : Nat) : Prop := ∀ t, i ≤ t → t < m → takeN s (6 + 12 * t) 8 ≤ 1099511627776
theorem getM_low {s : ByteArray} {m : Nat} (h : Low s 0 m) : getM s m = getL s m := by
  unfold getM getL
  refine List.map_congr_left (fun i hi => ?_)
  have := h i (Nat.zero_le _) (List.mem_range.1 hi)
  simp
  omega
theorem low_of {s : ByteArray} {m : Nat} (h : ∀ x ∈ getM s m, right x) : Low s 0 m := by
  intro t _ ht
  have := h _ (List.mem_map.2 ⟨t, List.mem_range.2 ht, rfl⟩)
  unfold right at this
  simp only at this
  omega
/-- what a call of Decode tells -/
def decP (s : ByteArray) : Int × List S28 × Int :=
  if 6 ≤ s.size ∧ takeN s 4 2 ≤ 40 ∧ s.size = 6 + 12 * takeN s 4 2 ∧ mayB (takeN s 0 4) (getM s (takeN s 4 2)) = true then (takeN s 0 4, getM s (takeN s 4 2), 0) else (0, [], 4)
theorem takeN_nums (s : ByteArray) (a z : Nat) (h : a + z ≤ s.size) : numL z (takeN s a z) = ((nums s).drop a).take z := by
  unfold takeN
  have h1 : (nums (s.extract a (a + z))).length = z := by rw [nums_length, ByteArray.size_extract]; omega
  have := numL_valN (nums (s.extract a (a + z))) (nums_lt _)
  rw [h1] at this
  rw [this, nums_ext]
theorem nums_pages (s : ByteArray) : ∀ (m i : Nat), 6 + 12 * (i + m) ≤ s.size → nums (pagesB ((List.range' i m).map fun t => (⟨takeN s (6 + 12 * t) 8, takeN s (6 + 12 * t + 8) 4⟩ : S28))) = ((nums s).drop (6 + 12 * i)).take (12 * m)
  | 0, i, h => by simp [pagesB]; rfl
  | m + 1, i, h => by
    rw [List.range'_succ, List.map_cons, pagesB, nums_append, nums_pages s m (i + 1) (by omega)]
    unfold oneB
    rw [nums_append, nums_numB, nums_numB]
    simp only [Int.toNat_natCast]
    rw [takeN_nums s _ 8 (by omega), takeN_nums s _ 4 (by omega)]
    have e1 : (nums s).drop (6 + 12 * i + 8) = ((nums s).drop (6 + 12 * i)).drop 8 := by rw [List.drop_drop]
    have e2 : (nums s).drop (6 + 12 * (i + 1)) = ((nums s).drop (6 + 12 * i)).drop 12 := by rw [List.drop_drop]; congr 1
    rw [e1, e2]
    generalize (nums s).drop (6 + 12 * i) = X
    have a1 : X.take 8 ++ (X.drop 8).take 4 = X.take 12 := by rw [← List.take_add]
    rw [a1, ← List.take_add]
    congr 1
    omega
theorem piece_of (s : ByteArray) (m : Nat) (h : s.size = 6 + 12 * m) (hm : takeN s 4 2 = m) : pieceB (takeN s 0 4 : Nat) (getL s m) = s := by
  apply nums_inj
  unfold pieceB
  rw [nums_append, nums_append, nums_numB, nums_numB, getL_length, Int.toNat_natCast]
  have hp : nums (pagesB (getL s m)) = ((nums s).drop 6).take (12 * m) := by
    have := nums_pages s m 0 (by omega)
    rw [← List.range_eq_range'] at this
    exact this
  rw [hp]
  conv => lhs; rw [← hm]
  rw [takeN_nums s 0 4 (by omega), takeN_nums s 4 2 (by omega), List.drop_zero]
  have e1 : (nums s).take 4 ++ ((nums s).drop 4).take 2 = (nums s).take 6 := by rw [← List.take_add]
  rw [e1, hm, ← List.take_add, List.take_of_length_le (by rw [nums_length]; omega)]
theorem piece_count (next : Int) (l : List S28) (h : l.length ≤ 40) : takeN (pieceB next l) 4 2 = l.length := by
  refine take_mid _ (numL 4 next.toNat) (nums (pagesB l)) 2 l.length 4 ?_ (numL_length _ _) (by omega)
  unfold pieceB
  rw [nums_append, nums_append, nums_numB, nums_numB, List.append_assoc]
theorem refTake_fk (s : ByteArray) (a n : Int) (hs : s.size + 8 ≤ 9223372036854775807) : ∀ d, rollbookref01_Take.f (12 + d) s a n = some ((((takeF s a n).1 : Nat) : Int), (takeF s a n).2)
  | 0 => refTake_f s a n hs
  | d + 1 => rollbookref01_Take.mono _ _ _ _ _ (refTake_fk s a n hs d)
theorem refTake_at (s : ByteArray) (a z k : Nat) (h1 : 1 ≤ z) (h8 : z ≤ 8) (h : a + z ≤ s.size) (hs : s.size + 8 ≤ 9223372036854775807) (hk : 12 ≤ k) : rollbookref01_Take.f k s (a : Int) (z : Int) = some (((takeN s a z : Nat) : Int), (0 : Int)) := by
  obtain ⟨d, rfl⟩ : ∃ d, k = 12 + d := ⟨k - 12, by omega⟩
  rw [refTake_fk s a z hs d]
  unfold takeF
  rw [if_neg (by omega), if_neg (by omega)]
  rfl
theorem dec_step (s : ByteArray) (next : Int) (i k : Nat) (hs : s.size ≤ 486) (hi : 6 + 12 * i + 12 ≤ s.size) (hk : 12 ≤ k) :
    rollbookref08_Decode.l0 (k + 1) s next (getL s i) ((6 + 12 * i : Nat) : Int) = if takeN s (6 + 12 * i) 8 ≤ 1099511627776 then rollbookref08_Decode.l0 k s next (getL s (i + 1)) ((6 + 12 * (i + 1) : Nat) : Int) else some (0, [], 4) := by
  have t1 : rollbookref01_Take.f k s ((6 + 12 * i : Nat) : Int) 8 = some (((takeN s (6 + 12 * i) 8 : Nat) : Int), (0 : Int)) := refTake_at s (6 + 12 * i) 8 k (by decide) (by decide) (by omega) (by omega) hk
  have t2 : rollbookref01_Take.f k s ((6 + 12 * i + 8 : Nat) : Int) 4 = some (((takeN s (6 + 12 * i + 8) 4 : Nat) : Int), (0 : Int)) := refTake_at s (6 + 12 * i + 8) 4 k (by decide) (by decide) (by omega) (by omega) hk
  have e1 : wrap64 (((6 + 12 * i : Nat) : Int) + 12) = ((6 + 12 * (i + 1) : Nat) : Int) := by rw [w64i (by omega) (by omega)]; omega
  have e2 : wrap64 (((6 + 12 * i : Nat) : Int) + 8) = ((6 + 12 * i + 8 : Nat) : Int) := by rw [w64i (by omega) (by omega)]; omega
  have hb := takeN_lt s (6 + 12 * i + 8) 4 (by omega)
  have h4 : (256 : Nat) ^ 4 = 4294967296 := by decide
  rw [h4] at hb
  have hL := getL_succ s i
  have hl : (getL s i).length < 8796093022208 := by rw [getL_length]; omega
  have c1 : ((6 + 12 * (i + 1) : Nat) : Int) ≤ (s.size : Int) := by omega
  rw [rollbookref08_Decode.l0, e1, if_pos c1, t1, Option.bind_some, e2, t2, Option.bind_some]
  generalize takeN s (6 + 12 * i) 8 = X at hL ⊢
  generalize takeN s (6 + 12 * i + 8) 4 = Y at hL hb ⊢
  clear t1 t2 e1 e2 h4 c1
  by_cases h : X ≤ 1099511627776
  · have w1 : wrap64 (X : Int) = X := w64i (by omega) (by omega)
    have w2 : wrap64 (Y : Int) = Y := w64i (by omega) (by omega)
    have c2 : ¬ ((X : Int) > 1099511627776) := by omega
    rw [if_pos h]
    simp only []
    rw [if_neg c2, if_pos hl, w1, w2, hL]
  · have c2 : (X : Int) > 1099511627776 := by omega
    rw [if_neg h]
    simp only []
    rw [if_pos c2]
theorem dec_l0_bad (s : ByteArray) (next : Int) (m : Nat) (hm : m = (s.size - 6) / 12) (hs : s.size ≤ 486) : ∀ (d i k : Nat), i + d = m → d + 30000 ≤ k → ¬ Low s i m →
    rollbookref08_Decode.l0 k s next (getL s i) ((6 + 12 * i : Nat) : Int) = some (0, [], 4)
  | 0, i, k, hi, hk, hL => absurd (fun t h1 h2 => by omega : Low s i m) hL
  | d + 1, i, k, hi, hk, hL => by
    obtain ⟨k, rfl⟩ : ∃ q, k = q + 1 := ⟨k - 1, by omega⟩
    rw [dec_step s next i k hs (by omega) (by omega)]
    by_cases h : takeN s (6 + 12 * i) 8 ≤ 1099511627776
    · rw [if_pos h]
      exact dec_l0_bad s next m hm hs d (i + 1) k (by omega) (by omega) (fun hh => hL (fun t h1 h2 => by
        by_cases e : t = i
        · subst e; exact h
        · exact hh t (by omega) h2))
    · rw [if_neg h]
theorem toList_ne {x s : ByteArray} (h : ¬ x = s) : ¬ x.toList = s.toList := by
  intro e
  rw [Lib.toList_data, Lib.toList_data] at e
  apply h
  cases x; cases s
  simp only [ByteArray.mk.injEq]
  exact Array.toList_inj.1 e
theorem dec_l0_ok (s : ByteArray) (next : Int) (m : Nat) (hm : m = (s.size - 6) / 12) (hs : s.size ≤ 486) (hx0 : 0 ≤ next) (hx : next < 4294967296) : ∀ (d i k : Nat), i + d = m → d + 30000 ≤ k → Low s i m →
    rollbookref08_Decode.l0 k s next (getL s i) ((6 + 12 * i : Nat) : Int) = some (if mayB next (getL s m) = true ∧ pieceB next (getL s m) = s then (next, getL s m, 0) else (0, [], 4))
  | 0, i, k, hi, hk, hL => by
    obtain ⟨k, rfl⟩ : ∃ q, k = q + 1 := ⟨k - 1, by omega⟩
    obtain rfl : i = m := by omega
    have e1 : wrap64 (((6 + 12 * i : Nat) : Int) + 12) = ((6 + 12 * (i + 1) : Nat) : Int) := by rw [w64i (by omega) (by omega)]; omega
    have w1 : wrap64 next = next := w64i (by omega) (by omega)
    have c1 : ¬ (((6 + 12 * (i + 1) : Nat) : Int) ≤ (s.size : Int)) := by omega
    rw [rollbookref08_Decode.l0, e1, if_neg c1, w1, refEnc_f next _ k (by omega), Option.bind_some]
    clear e1 w1 c1
    unfold encP
    by_cases hM : mayB next (getL s i) = true
    · rw [if_pos hM, if_pos rfl]
      by_cases he : pieceB next (getL s i) = s
      · rw [if_pos (by rw [he]), if_pos ⟨hM, he⟩]
      · rw [if_neg (toList_ne he), if_neg (fun h => he h.2)]
    · rw [if_neg hM, if_neg (by decide), if_neg (fun h => hM h.1)]
  | d + 1, i, k, hi, hk, hL => by
    obtain ⟨k, rfl⟩ : ∃ q, k = q + 1 := ⟨k - 1, by omega⟩
    rw [dec_step s next i k hs (by omega) (by omega), if_pos (hL i (Nat.le_refl _) (by omega))]
    exact dec_l0_ok s next m hm hs hx0 hx d (i + 1) k (by omega) (by omega) (fun t h1 h2 => hL t (by omega) h2)
end Go.Proofs.Ytcoddeemfdnjpaa.Free

namespace Go.Proofs.Ytcoddeemfdnjpaa.Free
open Go.RowKit Go.Lib CrcPlain NumPlain FieldPlain PagePlain
open Go.Proofs.Ytcoddeemfdnjpaa.Fn
open Go.Proofs.YtcoddeemfdnjpaaW.PrintWords hiding nums nums_length nums_append
theorem takeF_at (s : ByteArray) (a z : Nat) (h1 : 1 ≤ z) (h8 : z ≤ 8) (h : a + z ≤ s.size) : takeF s (a : Int) (z : Int) = (takeN s a z, 0) := by
  unfold takeF
  rw [if_neg (by omega), if_neg (by omega)]
  rfl
theorem takeF_short (s : ByteArray) (a z : Nat) (h1 : 1 ≤ z) (h8 : z ≤ 8) (h : s.size < a + z) : takeF s (a : Int) (z : Int) = (0, 3) := by
  unfold takeF
  rw [if_neg (by omega), if_pos (by omega)]
theorem decP_bad (s : ByteArray) (h : ¬ (6 ≤ s.size ∧ takeN s 4 2 ≤ 40 ∧ s.size = 6 + 12 * takeN s 4 2 ∧ mayB (takeN s 0 4) (getM s (takeN s 4 2)) = true)) : decP s = (0, [], 4) := if_neg h
theorem mayB_len {next : Int} {l : List S28} (h : mayB next l = true) : 0 ≤ next ∧ next < 512 ∧ l.length ≤ 40 ∧ OKL l := of_decide_eq_true h
theorem refDec_f (s : ByteArray) (k : Nat) (hk : 40000 ≤ k) (hss : s.size ≤ 2000) : rollbookref08_Decode.f k s = some (decP s) := by
  obtain ⟨k, rfl⟩ : ∃ q, k = q + 1 := ⟨k - 1, by omega⟩
  have ht : rollbookref01_Take.f (k + 1) s 0 4 = some ((((takeF s 0 4).1 : Nat) : Int), (takeF s 0 4).2) := by
    have := refTake_fk s 0 4 (by omega) (k + 1 - 12)
    rwa [show 12 + (k + 1 - 12) = k + 1 by omega] at this
  unfold rollbookref08_Decode.f
  rw [ht, Option.bind_some]
  by_cases c4 : s.size < 4
  · have e : takeF s 0 4 = (0, 3) := takeF_short s 0 4 (by decide) (by decide) (by omega)
    rw [e, decP_bad s (fun h => by omega)]
    simp [rollbookref08_Decode.j0]
  · have e : takeF s 0 4 = (takeN s 0 4, 0) := takeF_at s 0 4 (by decide) (by decide) (by omega)
    rw [e]
    simp only [if_true]
    by_cases c5 : (s.size : Int) > 486
    · rw [decide_eq_true c5, rollbookref08_Decode.j0, if_pos rfl, decP_bad s (fun h => by omega)]
    · rw [decide_eq_false c5, rollbookref08_Decode.j0, if_neg (by simp)]
      obtain ⟨m, hm⟩ : ∃ m, m = (s.size - 6) / 12 := ⟨_, rfl⟩
      have hb := takeN_lt s 0 4 (by omega)
      have h4 : (256 : Nat) ^ 4 = 4294967296 := by decide
      rw [h4] at hb
      have hg0 : getL s 0 = [] := rfl
      by_cases hL : Low s 0 m
      · have h0 := dec_l0_ok s (takeN s 0 4 : Nat) m hm (by omega) (by omega) (by omega) m 0 k (by omega) (by omega) hL
        rw [hg0] at h0
        have h0' : rollbookref08_Decode.l0 k s ((takeN s 0 4 : Nat) : Int) [] 6 = _ := h0
        rw [h0']
        refine congrArg some ?_
        by_cases hok : mayB (takeN s 0 4 : Nat) (getL s m) = true ∧ pieceB (takeN s 0 4 : Nat) (getL s m) = s
        · obtain ⟨hM, hP⟩ := hok
          obtain ⟨_, _, hl, hO⟩ := mayB_len hM
          have hcount := piece_count (takeN s 0 4 : Nat) (getL s m) hl
          have hsize := pieceB_size (takeN s 0 4 : Nat) (getL s m)
          rw [hP, getL_length] at hcount hsize
          rw [getL_length] at hl
          rw [if_pos ⟨hM, hP⟩]
          unfold decP
          rw [hcount, getM_low hL, if_pos ⟨by omega, hl, hsize, hM⟩]
        · rw [if_neg hok]
          refine (decP_bad s (fun ⟨h6, h40, hsz, hM⟩ => hok ?_)).symm
          have hmm : m = takeN s 4 2 := by omega
          rw [← hmm, getM_low hL] at hM
          exact ⟨hM, piece_of s m (by omega) hmm.symm⟩
      · have h0 := dec_l0_bad s (takeN s 0 4 : Nat) m hm (by omega) m 0 k (by omega) (by omega) hL
        rw [hg0] at h0
        have h0' : rollbookref08_Decode.l0 k s ((takeN s 0 4 : Nat) : Int) [] 6 = _ := h0
        rw [h0']
        refine congrArg some ?_
        refine (decP_bad s (fun ⟨h6, h40, hsz, hM⟩ => hL ?_)).symm
        have hmm : m = takeN s 4 2 := by omega
        rw [← hmm] at hM
        exact low_of (mayB_len hM).2.2.2.1
theorem same_l (l : List S28) (hl : l.length < 9223372036854775807) : ∀ (d i k : Nat), i + d = l.length → d < k → rollbookref08_Same.l0 k l l (i : Int) = some true
  | 0, i, k, hi, hk => by
    obtain ⟨k, rfl⟩ : ∃ q, k = q + 1 := ⟨k - 1, by omega⟩
    rw [rollbookref08_Same.l0, if_neg (by omega)]
  | d + 1, i, k, hi, hk => by
    obtain ⟨k, rfl⟩ : ∃ q, k = q + 1 := ⟨k - 1, by omega⟩
    have e1 : wrap64 ((i : Int) + 1) = ((i + 1 : Nat) : Int) := by rw [w64i (by omega) (by omega)]; rfl
    rw [rollbookref08_Same.l0, if_pos (by omega), if_pos (by omega), if_pos (by omega), if_neg (by simp), e1]
    exact same_l l hl d (i + 1) k (by omega) (by omega)
theorem same_f (l : List S28) (hl : l.length < 9223372036854775807) : rollbookref08_Same.f (l.length + 1) l l = some true := by
  unfold rollbookref08_Same.f
  rw [if_pos rfl]
  exact same_l l hl l.length 0 _ (by omega) (by omega)
/-- what is encoded is read as it was -/
theorem dec_enc {next : Int} {l : List S28} (h : mayB next l = true) : decP (pieceB next l) = (next, l, 0) := by
  obtain ⟨h0, h1, hl, hO⟩ := mayB_len h
  have hc := piece_count next l hl
  have hs := pieceB_size next l
  have hn : takeN (pieceB next l) 0 4 = next.toNat := by
    refine take_mid _ [] (numL 2 l.length ++ nums (pagesB l)) 4 next.toNat 0 ?_ rfl (by omega)
    unfold pieceB
    rw [nums_append, nums_append, nums_numB, nums_numB, List.append_assoc]; rfl
  have hg : ∀ (r a : List S28), a ++ r = l → (∀ x ∈ r, right x) → ∀ t, t < r.length → takeN (pieceB next l) (6 + 12 * (a.length + t)) 8 = (r.getD t zS).f0.toNat ∧ takeN (pieceB next l) (6 + 12 * (a.length + t) + 8) 4 = (r.getD t zS).f1.toNat := by
    intro r
    induction r with
    | nil => intro a _ _ t ht; simp at ht
    | cons x r ih =>
      intro a ha hr t ht
      cases t with
      | zero =>
        have hx := hr x List.mem_cons_self
        unfold right at hx
        have hnums : nums (pieceB next l) = (numL 4 next.toNat ++ numL 2 l.length ++ nums (pagesB a)) ++ (numL 8 x.f0.toNat ++ (numL 4 x.f1.toNat ++ nums (pagesB r))) := by
          unfold pieceB
          rw [nums_append, nums_append, nums_numB, nums_numB, ← ha]
          have hp : ∀ a : List S28, nums (pagesB (a ++ x :: r)) = nums (pagesB a) ++ (numL 8 x.f0.toNat ++ (numL 4 x.f1.toNat ++ nums (pagesB r))) := by
            intro a
            induction a with
            | nil =>
              show nums (oneB x ++ pagesB r) = nums (⟨#[]⟩ : ByteArray) ++ _
              rw [nums_append]
              unfold oneB
              rw [nums_append, nums_numB, nums_numB, List.append_assoc]
              rfl
            | cons y a ih2 => rw [List.cons_append, pagesB, nums_append, ih2, pagesB, nums_append, List.append_assoc]
          rw [hp a]
          simp only [List.append_assoc]
        have hlen : (numL 4 next.toNat ++ numL 2 l.length ++ nums (pagesB a)).length = 6 + 12 * (a.length + 0) := by
          rw [List.length_append, List.length_append, numL_length, numL_length, nums_length, pagesB_size]; omega
        refine ⟨take_mid _ _ _ 8 _ _ hnums hlen (by show x.f0.toNat < _; omega), ?_⟩
        refine take_mid _ ((numL 4 next.toNat ++ numL 2 l.length ++ nums (pagesB a)) ++ numL 8 x.f0.toNat) (nums (pagesB r)) 4 _ _ ?_ ?_ (by show x.f1.toNat < _; omega)
        · rw [hnums]; simp only [List.append_assoc]; rfl
        · rw [List.length_append, hlen, numL_length]
      | succ t =>
        have := ih (a ++ [x]) (by rw [← ha]; simp) (fun y hy => hr y (List.mem_cons_of_mem _ hy)) t (by simpa using ht)
        rw [List.length_append, List.length_singleton] at this
        rw [show a.length + (t + 1) = a.length + 1 + t by omega]
        simpa using this
  have hgM : getM (pieceB next l) l.length = l := by
    refine List.ext_getElem (by rw [getM_length]) (fun t h1 h2 => ?_)
    have hgt := hg l [] rfl hO.1 t h2
    have hr := hO.1 _ (List.getElem_mem h2)
    unfold right at hr
    rw [getD_at l zS t h2] at hgt
    simp only [List.length_nil, Nat.zero_add] at hgt
    simp only [getM, List.getElem_map, List.getElem_range, hgt.1, hgt.2]
    have e0 : min ((l[t].f0.toNat : Nat) : Int) 1099511627777 = l[t].f0 := by omega
    have e1 : ((l[t].f1.toNat : Nat) : Int) = l[t].f1 := by omega
    rw [e0, e1]
  unfold decP
  rw [hc, hgM, hn, Int.toNat_of_nonneg h0, if_pos ⟨by omega, hl, by omega, h⟩]
#print axioms dec_enc
end Go.Proofs.Ytcoddeemfdnjpaa.Free
