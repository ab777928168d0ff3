/- The plain law of laying numbers: what the printed functions of field.Put and the reference's Put and Take come to. -/
import Derived.Test.YtcoddeemfdnjpaaDoorFn48
import Derived.Test.YtcoddeemfdnjpaaDoorFn49
import Derived.Test.YtcoddeemfdnjpaaDoorFn51
import Derived.Test.YtcoddeemfdnjpaaDoorTakeWalk
namespace Go.Proofs.YtcoddeemfdnjpaaDoor.FieldPlain
open Go.RowKit CrcPlain NumPlain _root_.Go.Proofs.YtcoddeemfdnjpaaDoor.Fn Go.Proofs.YtcoddeemfdnjpaaDoorW.PrintMore
open Go.Proofs.YtcoddeemfdnjpaaDoorW.PrintWords hiding nums nums_length
def ints (l : List Nat) : List Int := l.map fun n : Nat => (n : Int)
/-- what a call of Put tells, and its error -/
def putF (s : ByteArray) (n : Nat) (size : Int) : ByteArray × Int :=
  if size < 1 ∨ 8 < size ∨ 256 ^ size.toNat ≤ n then (⟨#[]⟩, 1) else (s ++ strOfNums (ints (numL size.toNat n)), 0)
theorem ints_length (l : List Nat) : (ints l).length = l.length := by simp [ints]
theorem ints_append (a b : List Nat) : ints (a ++ b) = ints a ++ ints b := by simp [ints]
theorem put_l0 (s : ByteArray) : ∀ (i k n : Nat) (t : List Int), i < k → i + t.length ≤ 8 → s.size + 8 ≤ 9223372036854775807 →
    field_Put.l0 k s (n : Int) (List.replicate i 0 ++ t) ((i : Int) - 1) = some (s ++ strOfNums (ints (numL i n) ++ t), 0)
  | 0, k, n, t, hk, ht, hs => by
    obtain ⟨k, rfl⟩ : ∃ m, k = m + 1 := ⟨k - 1, by omega⟩
    simp only [field_Put.l0]
    rw [if_neg (by omega), if_pos (by rw [strOfNums_size]; simp; omega)]
    rfl
  | i + 1, k, n, t, hk, ht, hs => by
    obtain ⟨k, rfl⟩ : ∃ m, k = m + 1 := ⟨k - 1, by omega⟩
    simp only [field_Put.l0]
    have e0 : ((i + 1 : Nat) : Int) - 1 = (i : Int) := by omega
    rw [e0, if_pos (by omega), if_pos (by omega), if_pos (by simp; omega)]
    have e1 : (List.replicate (i + 1) (0 : Int) ++ t).set (i : Int).toNat ((n : Int) % 256) = List.replicate i 0 ++ (((n % 256 : Nat) : Int) :: t) := by
      rw [Int.toNat_natCast, List.replicate_succ', List.append_assoc]
      rw [List.set_append_right _ _ (by simp)]
      simp
    have e2 : wrap64 ((i : Int) - 1) = (i : Int) - 1 := by unfold wrap64; omega
    have e3 : ((n : Int) / 256) = ((n / 256 : Nat) : Int) := by omega
    rw [e1, e2, e3, put_l0 s i k (n / 256) _ (by omega) (by simp; omega) hs]
    simp [numL, ints]
theorem put_f (s : ByteArray) (n : Nat) (size : Int) (hn : n < 18446744073709551616) (hs : s.size + 8 ≤ 9223372036854775807) : field_Put.f 12 s (n : Int) size = some (putF s n size) := by
  unfold field_Put.f putF
  by_cases c1 : size < 1
  · rw [if_pos c1, if_pos (.inl c1)]; simp [field_Put.j0]
  · by_cases c2 : size > 8
    · rw [if_neg c1, if_pos c2, if_pos (.inr (.inl (by omega)))]; simp [field_Put.j0]
    · rw [if_neg c1, if_neg c2]
      obtain ⟨z, rfl⟩ := Int.eq_ofNat_of_zero_le (a := size) (by omega)
      have hz : 1 ≤ z ∧ z ≤ 8 := by omega
      have go : ∀ b : Bool, (b = true ↔ 256 ^ z ≤ n) → field_Put.j0 12 s (n : Int) (z : Int) b = some (if (z : Int) < 1 ∨ 8 < (z : Int) ∨ 256 ^ (z : Int).toNat ≤ n then (⟨#[]⟩, 1) else (s ++ strOfNums (ints (numL (z : Int).toNat n)), 0)) := by
        intro b hb
        simp only [field_Put.j0, Int.toNat_natCast]
        by_cases h : 256 ^ z ≤ n
        · rw [if_pos (hb.2 h), if_pos (.inr (.inr h))]
        · have hb' : ¬ b = true := fun e => h (hb.1 e)
          have hr : ¬ ((z : Int) < 1 ∨ 8 < (z : Int) ∨ 256 ^ z ≤ n) := by
            intro hh
            rcases hh with h1 | h1 | h1
            · omega
            · omega
            · exact h h1
          rw [if_neg hb', if_pos (by omega), if_pos (by omega), if_neg hr]
          have e2 : wrap64 ((z : Int) - 1) = (z : Int) - 1 := by unfold wrap64; omega
          have := put_l0 s z 11 n [] (by omega) (by simp; omega) hs
          rw [List.append_nil, List.append_nil] at this
          rw [e2, this]
      by_cases c3 : (z : Int) < 8
      · have e8 : wrap64 (8 * (z : Int)) = 8 * (z : Int) := by unfold wrap64; omega
        rw [if_pos c3, e8, if_pos (by omega)]
        refine go _ ?_
        rw [decide_eq_true_iff]
        have hzz : z = 1 ∨ z = 2 ∨ z = 3 ∨ z = 4 ∨ z = 5 ∨ z = 6 ∨ z = 7 := by omega
        rcases hzz with rfl | rfl | rfl | rfl | rfl | rfl | rfl <;> simp [shr, IntKind.bits] <;> omega
      · obtain rfl : z = 8 := by omega
        rw [if_neg c3]
        refine go _ ?_
        simp
        omega
theorem numL_cons : ∀ j n, numL (j + 1) n = (n / 256 ^ j % 256) :: numL j n
  | 0, n => by simp [numL]
  | j + 1, n => by
    rw [numL, numL_cons j (n / 256), numL]
    simp only [List.cons_append, List.cons.injEq, and_true]
    rw [Nat.div_div_eq_div_mul, Nat.pow_succ, Nat.mul_comm]
/-- the reference's inner loop: n divided by 256 so many times -/
theorem refPut_l1 (s : ByteArray) (n : Int) (size : Int) (b : List Int) (kk : Nat) (hk8 : kk < 8) : ∀ (d i k m : Nat), i + d = kk → d < k → m < 18446744073709551616 →
    rollbookref01_Put.l1 k s n size b (kk : Int) (m : Int) (i : Int) = rollbookref01_Put.l1 (k - d) s n size b (kk : Int) ((m / 256 ^ d : Nat) : Int) (kk : Int)
  | 0, i, k, m, hi, hk, hm => by
    obtain rfl : i = kk := by omega
    simp
  | d + 1, i, k, m, hi, hk, hm => by
    obtain ⟨k, rfl⟩ : ∃ q, k = q + 1 := ⟨k - 1, by omega⟩
    simp only [rollbookref01_Put.l1]
    rw [if_pos (by omega)]
    have e1 : IntKind.u64.wrap (Int.tdiv (m : Int) 256) = ((m / 256 : Nat) : Int) := by
      rw [Int.tdiv_eq_ediv_of_nonneg (by omega)]
      simp [IntKind.wrap, IntKind.bits, IntKind.signed]
      omega
    have e2 : wrap64 ((i : Int) + 1) = ((i + 1 : Nat) : Int) := by unfold wrap64; omega
    rw [e1, e2, refPut_l1 s n size b kk hk8 d (i + 1) k (m / 256) (by omega) (by omega) (by omega)]
    rw [show k + 1 - (d + 1) = k - d by omega, Nat.div_div_eq_div_mul, Nat.pow_succ, Nat.mul_comm 256]
theorem refPut_l0 (s : ByteArray) (n : Nat) (z : Nat) (hz : z ≤ 8) (hn : n < 18446744073709551616) (hs : s.size + 8 ≤ 9223372036854775807) : ∀ (j k : Nat) (b : List Int), j ≤ z → b.length + j = z → j * 10 < k → (j = z → n < 256 ^ z) →
    rollbookref01_Put.l0 k s (n : Int) (z : Int) b ((j : Int) - 1) = some (s ++ strOfNums (b ++ ints (numL j n)), 0)
  | 0, k, b, _, hb, hk, _ => by
    obtain ⟨k, rfl⟩ : ∃ q, k = q + 1 := ⟨k - 1, by omega⟩
    simp only [rollbookref01_Put.l0]
    rw [if_neg (by omega), if_pos (by rw [strOfNums_size]; omega)]
    simp [numL, ints]
  | j + 1, k, b, hj, hb, hk, hfit => by
    obtain ⟨k, rfl⟩ : ∃ q, k = q + 1 := ⟨k - 1, by omega⟩
    simp only [rollbookref01_Put.l0]
    have e0 : ((j + 1 : Nat) : Int) - 1 = (j : Int) := by omega
    rw [e0, if_pos (by omega)]
    have hl1 := refPut_l1 s (n : Int) (z : Int) b j (by omega) j 0 k n (by omega) (by omega) hn
    rw [show ((0 : Nat) : Int) = 0 from rfl] at hl1
    rw [hl1]
    obtain ⟨q, hq⟩ : ∃ q, k - j = q + 1 := ⟨k - j - 1, by omega⟩
    rw [hq]
    simp only [rollbookref01_Put.l1]
    have hm : n / 256 ^ j < 18446744073709551616 := Nat.lt_of_le_of_lt (Nat.div_le_self _ _) hn
    have e3 : Int.tmod ((n / 256 ^ j : Nat) : Int) 256 % 256 = ((n / 256 ^ j % 256 : Nat) : Int) := by
      rw [Int.tmod_eq_emod_of_nonneg (Int.natCast_nonneg _)]
      omega
    have e4 : wrap64 ((j : Int) - 1) = (j : Int) - 1 := by unfold wrap64; omega
    have e5 : wrap64 ((z : Int) - 1) = (z : Int) - 1 := by unfold wrap64; omega
    have ih := refPut_l0 s n z hz hn hs j q (b ++ [((n / 256 ^ j % 256 : Nat) : Int)]) (by omega) (by simp; omega) (by omega) (by omega)
    have fin : s ++ strOfNums (b ++ [((n / 256 ^ j % 256 : Nat) : Int)] ++ ints (numL j n)) = s ++ strOfNums (b ++ ints (numL (j + 1) n)) := by
      rw [numL_cons]
      simp [ints]
    rw [fin] at ih
    rw [if_neg (by omega), e3, e4, e5]
    by_cases c : (j : Int) = (z : Int) - 1
    · have hf := hfit (by omega)
      have h255 : n / 256 ^ j ≤ 255 := by
        have hzj : z = j + 1 := by omega
        rw [hzj, Nat.pow_succ] at hf
        have := (Nat.div_lt_iff_lt_mul (Nat.pow_pos (n := j) (show 0 < 256 by decide))).2 (show n < 256 * 256 ^ j by rw [Nat.mul_comm]; exact hf)
        omega
      rw [if_pos c, if_neg (by omega), if_pos (by omega), ih]
    · rw [if_neg c, if_pos (by omega), ih]
theorem refPut_f (s : ByteArray) (n : Nat) (size : Int) (hn : n < 18446744073709551616) (hs : s.size + 8 ≤ 9223372036854775807) : rollbookref01_Put.f 100 s (n : Int) size = some (putF s n size) := by
  unfold rollbookref01_Put.f putF
  by_cases c1 : size < 1
  · rw [if_pos c1, if_pos (.inl c1)]; simp [rollbookref01_Put.j0]
  · by_cases c2 : size > 8
    · rw [if_neg c1, if_pos (.inr (.inl (by omega)))]; simp [rollbookref01_Put.j0, c2]
    · rw [if_neg c1]
      obtain ⟨z, rfl⟩ := Int.eq_ofNat_of_zero_le (a := size) (by omega)
      have e5 : wrap64 ((z : Int) - 1) = (z : Int) - 1 := by unfold wrap64; omega
      rw [decide_eq_false c2]
      simp only [rollbookref01_Put.j0, Bool.false_eq_true, if_false, Int.toNat_natCast]
      rw [e5]
      by_cases h : 256 ^ z ≤ n
      · rw [if_pos (.inr (.inr h))]
        obtain ⟨j, rfl⟩ : ∃ j, z = j + 1 := ⟨z - 1, by omega⟩
        have e0 : ((j + 1 : Nat) : Int) - 1 = (j : Int) := by omega
        rw [e0]
        simp only [rollbookref01_Put.l0]
        rw [if_pos (by omega)]
        have hl1 := refPut_l1 s (n : Int) ((j + 1 : Nat) : Int) [] j (by omega) j 0 98 n (by omega) (by omega) hn
        rw [show ((0 : Nat) : Int) = 0 from rfl] at hl1
        rw [hl1]
        obtain ⟨q, hq⟩ : ∃ q, 98 - j = q + 1 := ⟨98 - j - 1, by omega⟩
        rw [hq]
        simp only [rollbookref01_Put.l1]
        have h256 : 256 ≤ n / 256 ^ j := by
          rw [Nat.pow_succ] at h
          exact (Nat.le_div_iff_mul_le (Nat.pow_pos (n := j) (show 0 < 256 by decide))).2 (by rw [Nat.mul_comm]; exact h)
        have e6 : wrap64 (((j + 1 : Nat) : Int) - 1) = (j : Int) := by unfold wrap64; omega
        rw [if_neg (by omega), e6, if_pos rfl, if_pos (by omega)]
      · have hr : ¬ ((z : Int) < 1 ∨ 8 < (z : Int) ∨ 256 ^ z ≤ n) := by
          intro hh
          rcases hh with h1 | h1 | h1
          · omega
          · omega
          · exact h h1
        rw [if_neg hr]
        have := refPut_l0 s n z (by omega) hn hs z 99 [] (Nat.le_refl _) (by simp) (by omega) (fun _ => by omega)
        rw [List.nil_append] at this
        exact this
theorem bt_nums (s : ByteArray) (i : Nat) (h : i < s.size) : bt s (i : Int) = (((nums s).getD i 0 : Nat) : Int) := by
  unfold bt nums
  rw [Int.toNat_natCast, dif_pos h]
  simp [List.getD_eq_getElem?_getD, h]
  rfl
theorem nums_extract (s : ByteArray) (a b : Nat) : nums (s.extract a b) = ((nums s).take b).drop a := by
  unfold nums
  rw [ByteArray.data_extract, Array.toList_extract, List.extract_eq_take_drop, ← List.map_take, ← List.map_drop, List.drop_take]
theorem refTake_l0 (s : ByteArray) (a n : Nat) (hn : n ≤ 8) (h : a + n ≤ s.size) (hs : s.size + 8 ≤ 9223372036854775807) : ∀ (d i k : Nat), i + d = n → d < k →
    rollbookref01_Take.l0 k s (a : Int) (n : Int) ((valN ((nums (s.extract a (a + n))).take i) : Nat) : Int) (i : Int) = some (((takeN s a n : Nat) : Int), 0)
  | 0, i, k, hi, hk => by
    obtain ⟨k, rfl⟩ : ∃ q, k = q + 1 := ⟨k - 1, by omega⟩
    obtain rfl : i = n := by omega
    simp only [rollbookref01_Take.l0]
    rw [if_neg (by omega), List.take_of_length_le (by rw [nums_length, ByteArray.size_extract]; omega)]
    rfl
  | d + 1, i, k, hi, hk => by
    obtain ⟨k, rfl⟩ : ∃ q, k = q + 1 := ⟨k - 1, by omega⟩
    simp only [rollbookref01_Take.l0]
    have e1 : wrap64 ((a : Int) + (i : Int)) = ((a + i : Nat) : Int) := by unfold wrap64; omega
    have e2 : wrap64 ((i : Int) + 1) = ((i + 1 : Nat) : Int) := by unfold wrap64; omega
    rw [e1, e2, if_pos (by omega), if_pos (by omega), if_pos (by omega), bt_nums s (a + i) (by omega)]
    have hl : (nums (s.extract a (a + n))).length = n := by rw [nums_length, ByteArray.size_extract]; omega
    have hg : (nums s).getD (a + i) 0 = (nums (s.extract a (a + n)))[i]'(by omega) := by
      simp only [nums_extract, List.getElem_drop, List.getElem_take]
      rw [List.getD_eq_getElem?_getD, List.getElem?_eq_getElem (by rw [nums_length]; omega)]
      rfl
    have hlt := valN_take_lt (nums (s.extract a (a + n))) (nums_lt _) i (by omega)
    have hpow : 256 ^ i ≤ 256 ^ 7 := Nat.pow_le_pow_right (by decide) (by omega)
    have h7 : (256 : Nat) ^ 7 = 72057594037927936 := by decide
    have hb : (nums s).getD (a + i) 0 < 256 := getD_lt (nums_lt s) _
    have e3 : IntKind.u64.wrap (IntKind.u64.wrap (((valN ((nums (s.extract a (a + n))).take i) : Nat) : Int) * 256) + IntKind.u64.wrap (((nums s).getD (a + i) 0 : Nat) : Int)) = ((valN ((nums (s.extract a (a + n))).take (i + 1)) : Nat) : Int) := by
      rw [List.take_succ_eq_append_getElem (by omega), valN_snoc, ← hg]
      obtain ⟨v, hv⟩ : ∃ v, v = valN ((nums (s.extract a (a + n))).take i) := ⟨_, rfl⟩
      obtain ⟨c, hc⟩ : ∃ c, c = (nums s).getD (a + i) 0 := ⟨_, rfl⟩
      rw [← hv] at hlt ⊢
      rw [← hc] at hb ⊢
      simp [IntKind.wrap, IntKind.bits, IntKind.signed]
      omega
    rw [e3]
    exact refTake_l0 s a n hn h hs d (i + 1) k (by omega) (by omega)
theorem refTake_f (s : ByteArray) (a n : Int) (hs : s.size + 8 ≤ 9223372036854775807) : rollbookref01_Take.f 12 s a n = some ((((takeF s a n).1 : Nat) : Int), (takeF s a n).2) := by
  unfold rollbookref01_Take.f takeF
  by_cases c1 : n < 1
  · rw [if_pos c1, if_pos (.inl c1)]; simp [rollbookref01_Take.j0]
  · by_cases c2 : n > 8
    · rw [if_neg c1, if_pos c2, if_pos (.inr (.inl (by omega)))]; simp [rollbookref01_Take.j0]
    · rw [if_neg c1, if_neg c2]
      by_cases c3 : a < 0
      · rw [if_pos (.inr (.inr c3)), decide_eq_true c3]; simp [rollbookref01_Take.j0]
      · rw [decide_eq_false c3, if_neg (by omega)]
        simp only [rollbookref01_Take.j0, Bool.false_eq_true, if_false]
        obtain ⟨x, rfl⟩ := Int.eq_ofNat_of_zero_le (a := a) (by omega)
        obtain ⟨y, rfl⟩ := Int.eq_ofNat_of_zero_le (a := n) (by omega)
        have e1 : wrap64 ((s.size : Int) - (y : Int)) = (s.size : Int) - (y : Int) := by unfold wrap64; omega
        rw [e1]
        by_cases c4 : (x : Int) > (s.size : Int) - (y : Int)
        · rw [if_pos c4, if_pos (by omega)]; rfl
        · rw [if_neg c4, if_neg (by omega)]
          have := refTake_l0 s x y (by omega) (by omega) hs y 0 11 (by omega) (by omega)
          simpa [valN] using this
end Go.Proofs.YtcoddeemfdnjpaaDoor.FieldPlain
