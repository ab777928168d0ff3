/- The plain law of turned bytes: of two texts that differ in four neighbouring bytes the sums differ, unless nothing was turned. -/
import Derived.Test.YtcoddeemfdnjpaaDoorCrcPlain
namespace Go.Proofs.YtcoddeemfdnjpaaDoor.CrcPlain
/-- byte j of a text of which k bytes from place a on were turned by a number's bytes, the lowest first -/
def turnN (l : List Nat) (a b k j : Nat) : Nat := if a ≤ j ∧ j < a + k then l.getD j 0 ^^^ (b / 2 ^ (8 * (j - a)) % 256) else l.getD j 0
theorem turnN_zero (l : List Nat) (a b j : Nat) : turnN l a b 0 j = l.getD j 0 := by unfold turnN; rw [if_neg (by omega)]
theorem turnN_new (l : List Nat) (a b k : Nat) : turnN l a b (k + 1) (a + k) = turnN l a b k (a + k) ^^^ (b / 2 ^ (8 * k) % 256) := by
  unfold turnN
  rw [if_pos (by omega), if_neg (by omega), show a + k - a = k by omega]
theorem turnN_old (l : List Nat) (a b k j : Nat) (h : j ≠ a + k) : turnN l a b (k + 1) j = turnN l a b k j := by
  unfold turnN
  by_cases c : a ≤ j ∧ j < a + k
  · rw [if_pos (by omega), if_pos c]
  · rw [if_neg (by omega), if_neg c]
theorem getD_lt {l : List Nat} (hl : ∀ c ∈ l, c < 256) (j : Nat) : l.getD j 0 < 256 := by
  rw [List.getD_eq_getElem?_getD]
  by_cases h : j < l.length
  · rw [List.getElem?_eq_getElem h]; exact hl _ (List.getElem_mem h)
  · rw [List.getElem?_eq_none (by omega)]; decide
theorem turnN_lt {l : List Nat} (hl : ∀ c ∈ l, c < 256) (a b k j : Nat) : turnN l a b k j < 256 := by
  unfold turnN
  split
  · exact Nat.xor_lt_two_pow (n := 8) (getD_lt hl j) (by omega)
  · exact getD_lt hl j
/-- the text whose bytes these are -/
def turned (s : ByteArray) (a b k : Nat) : ByteArray := ⟨((List.range s.size).map fun j => UInt8.ofNat (turnN (nums s) a b k j)).toArray⟩
theorem turned_size (s : ByteArray) (a b k : Nat) : (turned s a b k).size = s.size := by
  show Array.size _ = _
  simp
theorem nums_turned (s : ByteArray) (a b k : Nat) : nums (turned s a b k) = (List.range s.size).map fun j => turnN (nums s) a b k j := by
  unfold nums turned
  simp only [List.map_map]
  apply List.map_congr_left
  intro j _
  have := turnN_lt (nums_lt s) a b k j
  simp [nums] at this ⊢
  omega
/-- what was turned, byte by byte -/
def delta (n a b : Nat) : List Nat := List.replicate a 0 ++ ([b % 256, b / 256 % 256, b / 65536 % 256, b / 16777216 % 256] ++ List.replicate (n - a - 4) 0)
theorem delta_length (n a b : Nat) (h : a + 4 ≤ n) : (delta n a b).length = n := by simp [delta]; omega
theorem nums_getD (s : ByteArray) (j : Nat) (h : j < (nums s).length) : (nums s).getD j 0 = (nums s)[j] := by
  rw [List.getD_eq_getElem?_getD, List.getElem?_eq_getElem h]; rfl
theorem turned_zip (s : ByteArray) (a b : Nat) (h : a + 4 ≤ s.size) : nums (turned s a b 4) = List.zipWith (· ^^^ ·) (nums s) (delta s.size a b) := by
  rw [nums_turned]
  apply List.ext_getElem
  · simp [nums_length, delta_length _ _ _ h]
  intro j h1 h2
  have hj : j < s.size := by simpa using h1
  have hjn : j < (nums s).length := by rw [nums_length]; exact hj
  rw [List.getElem_map, List.getElem_range, List.getElem_zipWith]
  unfold turnN
  rw [nums_getD s j hjn]
  have hd : ∀ v, (delta s.size a b)[j]? = some v → (delta s.size a b)[j]'(by rw [delta_length _ _ _ h]; exact hj) = v := fun v hv => (List.getElem?_eq_some_iff.1 hv).2
  by_cases c : j < a
  · rw [if_neg (by omega), hd 0 (by simp [delta, List.getElem?_append, c]), Nat.xor_zero]
  · by_cases c2 : j < a + 4
    · rw [if_pos (by omega)]
      congr 1
      refine (hd _ ?_).symm
      unfold delta
      rw [List.getElem?_append_right (by simp; omega), List.getElem?_append_left (by simp; omega)]
      obtain ⟨i, rfl⟩ : ∃ i, j = a + i := ⟨j - a, by omega⟩
      have hi : i < 4 := by omega
      simp only [List.length_replicate, Nat.add_sub_cancel_left]
      match i, hi with
      | 0, _ => simp
      | 1, _ => simp
      | 2, _ => simp
      | 3, _ => simp
    · rw [if_neg (by omega)]
      rw [hd 0 (by
        unfold delta
        rw [List.getElem?_append_right (by simp; omega), List.getElem?_append_right (by simp; omega)]
        simp only [List.length_replicate, List.length_cons, List.length_nil]
        rw [List.getElem?_replicate, if_pos (by omega)]), Nat.xor_zero]
theorem reg_delta (n a b : Nat) (hb : b < 4294967296) : reg 0 (delta n a b) = 0 ↔ b = 0 := by
  unfold delta
  rw [reg_append, reg_zeros, reg_append]
  constructor
  · intro h
    have hlt : reg 0 [b % 256, b / 256 % 256, b / 65536 % 256, b / 16777216 % 256] < 4294967296 := reg_lt _ _ (by decide) (by simp; omega)
    have h4 := reg_zeros_eq_zero _ _ hlt h
    have := four_eq_zero _ _ _ _ (by omega) (by omega) (by omega) (by omega) h4
    omega
  · rintro rfl
    have : reg 0 [0 % 256, 0 / 256 % 256, 0 / 65536 % 256, 0 / 16777216 % 256] = 0 := by decide
    rw [this, reg_zeros]
theorem xor_self_iff (x d : Nat) : x ^^^ d = x ↔ d = 0 := by
  constructor
  · intro h
    have : x ^^^ (x ^^^ d) = x ^^^ x := by rw [h]
    rwa [← Nat.xor_assoc, Nat.xor_self, Nat.zero_xor] at this
  · rintro rfl; exact Nat.xor_zero x
/-- THE LAW: the sums are one just if nothing was turned. -/
theorem tells (s : ByteArray) (a b : Nat) (h : a + 4 ≤ s.size) (hb : b < 4294967296) : onN 0 (turned s a b 4) = onN 0 s ↔ b = 0 := by
  have h1 : reg 4294967295 (nums (turned s a b 4)) < 4294967296 := reg_lt _ _ (by decide) (nums_lt _)
  have h2 : reg 4294967295 (nums s) < 4294967296 := reg_lt _ _ (by decide) (nums_lt _)
  have hz := reg_zip (nums s) (delta s.size a b) 4294967295 0 (by rw [nums_length, delta_length _ _ _ h])
  rw [Nat.xor_zero, ← turned_zip s a b h] at hz
  rw [← reg_delta s.size a b hb, ← xor_self_iff (reg 4294967295 (nums s)), ← hz]
  unfold onN
  simp only [Nat.sub_zero]
  omega
end Go.Proofs.YtcoddeemfdnjpaaDoor.CrcPlain
