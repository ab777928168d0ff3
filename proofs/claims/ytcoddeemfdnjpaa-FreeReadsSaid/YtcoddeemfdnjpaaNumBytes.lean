/- The plain law of numbers as bytes: the highest byte first (turned from the Door seat's text). -/
import Derived.Test.YtcoddeemfdnjpaaFnBase
import Derived.Deep.LoopGhost
import Derived.RegionTactic
import Derived.BigRegion
import Derived.Lib.ConvBytes
import Derived.Lib.Hide
import Derived.WalkSpells
import Derived.WalkLawsBesides
import Derived.Laws.BitsAllLaws
import Derived.Test.YtcoddeemfdnjpaaFn38
import Derived.Test.YtcoddeemfdnjpaaFn44
import Derived.Test.YtcoddeemfdnjpaaFn37
import Derived.Test.YtcoddeemfdnjpaaFn39
namespace Go.Proofs.Ytcoddeemfdnjpaa.CrcPlain
def nums (s : ByteArray) : List Nat := s.data.toList.map UInt8.toNat

theorem nums_lt (s : ByteArray) : ∀ c ∈ nums s, c < 256 := by
  intro c hc
  simp only [nums, List.mem_map] at hc
  obtain ⟨u, _, rfl⟩ := hc
  exact u.toNat_lt

theorem nums_length (s : ByteArray) : (nums s).length = s.size := by simp [nums]

theorem nums_append (a b : ByteArray) : nums (a ++ b) = nums a ++ nums b := by simp [nums, ByteArray.data_append]

theorem getD_lt {l : List Nat} (hl : ∀ c ∈ l, c < 256) (j : Nat) : l.getD j 0 < 256 := by
  rw [List.getD_eq_getElem?_getD]
  by_cases h : j < l.length
  · rw [List.getElem?_eq_getElem h]; exact hl _ (List.getElem_mem h)
  · rw [List.getElem?_eq_none (by omega)]; decide

theorem nums_getD (s : ByteArray) (j : Nat) (h : j < (nums s).length) : (nums s).getD j 0 = (nums s)[j] := by
  rw [List.getD_eq_getElem?_getD, List.getElem?_eq_getElem h]; rfl

end Go.Proofs.Ytcoddeemfdnjpaa.CrcPlain
namespace Go.Proofs.Ytcoddeemfdnjpaa.NumPlain
open CrcPlain
def valN (l : List Nat) : Nat := l.foldl (fun a c => a * 256 + c) 0
/-- the bytes of a number, so many, the highest first -/
def numL : Nat → Nat → List Nat
  | 0, _ => []
  | k + 1, n => numL k (n / 256) ++ [n % 256]
theorem valN_nil : valN [] = 0 := rfl
theorem valN_snoc (l : List Nat) (c : Nat) : valN (l ++ [c]) = valN l * 256 + c := by unfold valN; rw [List.foldl_append]; rfl
theorem valN_take_lt (l : List Nat) (h : ∀ c ∈ l, c < 256) : ∀ k, k ≤ l.length → valN (l.take k) < 256 ^ k
  | 0, _ => by simp [valN]
  | k + 1, hk => by
    have ih := valN_take_lt l h k (by omega)
    rw [List.take_succ_eq_append_getElem (by omega), valN_snoc, Nat.pow_succ]
    have := h _ (List.getElem_mem (l := l) (n := k) (by omega))
    omega
theorem numL_length : ∀ k n, (numL k n).length = k
  | 0, _ => rfl
  | k + 1, n => by rw [numL, List.length_append, numL_length k]; rfl
theorem numL_lt : ∀ k n, ∀ c ∈ numL k n, c < 256
  | 0, _, c, h => by simp [numL] at h
  | k + 1, n, c, h => by
    rw [numL, List.mem_append] at h
    rcases h with h | h
    · exact numL_lt k _ c h
    · simp at h; omega
theorem valN_numL : ∀ k n, n < 256 ^ k → valN (numL k n) = n
  | 0, n, h => by simp at h; subst h; rfl
  | k + 1, n, h => by
    rw [numL, valN_snoc, valN_numL k (n / 256) (by rw [Nat.pow_succ] at h; omega)]
    omega
theorem numL_valN : ∀ l : List Nat, (∀ c ∈ l, c < 256) → numL l.length (valN l) = l := by
  intro l
  generalize hn : l.length = n
  induction n generalizing l with
  | zero => intro _; have := List.length_eq_zero_iff.1 hn; subst this; rfl
  | succ n ih =>
    intro h
    have hne : l ≠ [] := by intro e; subst e; simp at hn
    obtain ⟨m, c, rfl⟩ : ∃ m c, l = m ++ [c] := ⟨l.dropLast, l.getLast hne, (List.dropLast_concat_getLast hne).symm⟩
    have hc : c < 256 := h c (by simp)
    have hm : m.length = n := by simpa using hn
    rw [numL, valN_snoc, show (valN m * 256 + c) / 256 = valN m by omega, show (valN m * 256 + c) % 256 = c by omega, ih m hm (fun x hx => h x (by simp [hx]))]
theorem or_add (m c : Nat) (h : c < 256) : (m * 256) ||| c = m * 256 + c := by
  have := Nat.two_pow_add_eq_or_of_lt (i := 8) (b := c) h m
  rw [show 2 ^ 8 * m = m * 256 by omega] at this
  exact this.symm
theorem valN_numL_mod : ∀ k n, valN (numL k n) = n % 256 ^ k
  | 0, n => by simp [numL, valN]; omega
  | k + 1, n => by
    rw [numL, valN_snoc, valN_numL_mod k, Nat.pow_succ, Nat.mul_comm (256 ^ k) 256, Nat.mod_mul]
    omega
/-- the number that stands at a place, in so many bytes -/
def takeN (s : ByteArray) (a n : Nat) : Nat := valN (nums (s.extract a (a + n)))
theorem takeN_lt (s : ByteArray) (a n : Nat) (h : a + n ≤ s.size) : takeN s a n < 256 ^ n := by
  have := valN_take_lt (nums (s.extract a (a + n))) (nums_lt _) (nums (s.extract a (a + n))).length (Nat.le_refl _)
  rw [List.take_length, nums_length, ByteArray.size_extract, show min (a + n) s.size - a = n by omega] at this
  exact this
end Go.Proofs.Ytcoddeemfdnjpaa.NumPlain

namespace Go.Proofs.Ytcoddeemfdnjpaa
open Go.RowKit CrcPlain NumPlain
/-- a text turned into a list of bytes: a new row of the call's own -/
theorem bytes_of (w : World) (s : ByteArray) : ∃ cap w1, (convert 9 70 (.string s)).run Try.prog w = .ok (.slice (some ⟨w.heap.size, 0, none⟩) s.size cap) w1 ∧ Below w.heap.size w w1 ∧ w1.heap.size = w.heap.size + 1 ∧
    (∀ j, j < s.size → w1.cell? ⟨w.heap.size, j, none⟩ = some (.int .u8 ((nums s).getD j 0 : Nat))) ∧ (∀ j, j < s.size → w1.frozen? ⟨w.heap.size, j, none⟩ = false) ∧ s.size ≤ cap := by
  refine ⟨_, _, Lib.run_convert_string_bytes w 9 70 5 s Try.underlying9 Try.underlying70 Try.underlying5, ?_, Lib.bytesWorld_size w 5 s, ?_, ?_, grownCap_ge _ _ _ _⟩
  · exact ⟨rfl, rfl, rfl, by rw [Lib.bytesWorld_size]; omega, fun k hk => Lib.bytesWorld_at_old w 5 s k hk⟩
  · intro j hj
    rw [Lib.bytesWorld_cell w 5 s j hj]
    simp [nums, List.getD, hj]
  · intro j hj
    have h1 : s.size ≤ (Lib.bytesCells w 5 s).size := by simp [Lib.bytesCells]
    simp [World.frozen?, Lib.bytesWorld_at_new]
    omega

theorem or64_var (m c : Nat) (hm : m < 72057594037927936) (hc : c < 256) : bits .or .u64 (((m : Nat) : Int) * 256) (c : Int) = ((m * 256 + c : Nat) : Int) := by
  have := u64_or_nat (m * 256) c (by omega) (by omega)
  rw [or_add m c hc] at this
  rw [← this]
  simp
set_option maxHeartbeats 400000 in
set_option maxRecDepth 100000 in
theorem take_ok (s : ByteArray) (a n : Nat) (w : World) (hs : s.size ≤ 140737488351232) (h1 : 1 ≤ n) (h8 : n ≤ 8) (ha : a + n ≤ s.size) :
    Calls Try.prog 35 #[.string s, .int .i64 (a : Int), .int .i64 (n : Int)] w fun e w' => e = .returned (.tuple #[.int .u64 (takeN s a n : Nat), .int .i64 0]) ∧ Below w.heap.size w w' := by
  have hts : (s.extract a (a + n)).size = n := by rw [ByteArray.size_extract]; omega
  have hval : Hid (takeN s a n = valN (nums (s.extract a (a + n)))) := rfl
  obtain ⟨t, ht⟩ : ∃ t, s.extract a (a + n) = t := ⟨_, rfl⟩
  rw [ht] at hts hval
  obtain ⟨cap, w1, hconv, hb1, hz1, hc1, hf1, hcap⟩ := bytes_of w t
  rw [hts] at hconv
  have hc1' := Lib.hid hc1
  have htl := Lib.hid (show (nums t).length = n by rw [nums_length]; exact hts)
  have hts' := Lib.hid hts
  clear hc1 hf1 hcap hts
  go_enter Try.func35, Try.ntmps35
  go_wp2
  go_loop [43, 8] (fun i v => ∃ k : Nat, ∃ x : Nat, k ≤ n ∧ i = .int .i64 k ∧ v = .int .u64 x ∧ Hid (x = valN ((nums t).take k))) (fun i _ => n - (intOf i).toNat)
  case atStart => exact ⟨0, 0, by omega, rfl, rfl, rfl⟩
  case round =>
    obtain ⟨k, x, hk, rfl, rfl, hx⟩ := hrel
    by_cases hlt : k < n
    · have hc := hc1'.out k (by rw [hts'.out]; exact hlt)
      have hxl : x < 72057594037927936 := by
        have h7 := valN_take_lt (nums t) (nums_lt t) k (by rw [htl.out]; omega)
        have h56 : 256 ^ k ≤ 256 ^ 7 := Nat.pow_le_pow_right (by decide) (by omega)
        rw [← hx.out] at h7
        have : (256 : Nat) ^ 7 = 72057594037927936 := by decide
        omega
      have hcl : (nums t).getD k 0 < 256 := getD_lt (nums_lt t) k
      have hv : Hid (x * 256 + (nums t).getD k 0 = valN ((nums t).take (k + 1))) := by
        show _ = _
        rw [List.take_succ_eq_append_getElem (by rw [htl.out]; exact hlt), valN_snoc, ← hx.out, nums_getD t k (by rw [htl.out]; exact hlt)]
      obtain ⟨c, hcd⟩ : ∃ c, c = (nums t).getD k 0 := ⟨_, rfl⟩
      rw [← hcd] at hc hcl hv
      clear hcd hx
      have e1 := or64_var x c hxl hcl
      have e2 : IntKind.u64.wrap (((x : Nat) : Int) * 256) = ((x : Nat) : Int) * 256 := by
        simp [IntKind.wrap, IntKind.bits, IntKind.signed]; omega
      go_wp2
      go_round
      case rel => exact ⟨k + 1, x * 256 + c, by omega, by go_num, by go_num, hv⟩
      case measure => simp [intOf]; omega
    · go_wp2
      go_ret2
      have e : takeN s a n = x := by rw [hval.out, hx.out, List.take_of_length_le (by rw [htl.out]; omega)]
      rw [e]
      exact ⟨rfl, hb1⟩
/-- the number that a call of Take tells, and its error -/
def takeF (s : ByteArray) (a n : Int) : Nat × Int :=
  if n < 1 ∨ 8 < n ∨ a < 0 then (0, 1) else if (s.size : Int) < a + n then (0, 3) else (takeN s a.toNat n.toNat, 0)
set_option maxHeartbeats 400000 in
set_option maxRecDepth 100000 in
theorem take_bad (s : ByteArray) (a n : Int) (w : World) (h : n < 1 ∨ 8 < n ∨ a < 0) :
    Calls Try.prog 35 #[.string s, .int .i64 a, .int .i64 n] w fun e w' => e = .returned (.tuple #[.int .u64 0, .int .i64 1]) ∧ Below w.heap.size w w' := by
  by_cases c1 : n < 1
  · clear h
    go_enter Try.func35, Try.ntmps35
    go_wp2
    go_ret2
    exact ⟨rfl, Below.refl _ _⟩
  · by_cases c2 : 8 < n
    · clear h
      go_enter Try.func35, Try.ntmps35
      go_wp2
      go_ret2
      exact ⟨rfl, Below.refl _ _⟩
    · have c3 : a < 0 := by omega
      clear h
      go_enter Try.func35, Try.ntmps35
      go_wp2
      go_ret2
      exact ⟨rfl, Below.refl _ _⟩
set_option maxHeartbeats 400000 in
set_option maxRecDepth 100000 in
theorem take_short (s : ByteArray) (a n : Int) (w : World) (h1 : 1 ≤ n) (h8 : n ≤ 8) (h0 : 0 ≤ a) (h : (s.size : Int) < a + n) :
    Calls Try.prog 35 #[.string s, .int .i64 a, .int .i64 n] w fun e w' => e = .returned (.tuple #[.int .u64 0, .int .i64 3]) ∧ Below w.heap.size w w' := by
  by_cases c1 : (s.size : Int) < a
  · clear h
    go_enter Try.func35, Try.ntmps35
    go_wp2
    go_ret2
    exact ⟨rfl, Below.refl _ _⟩
  · have c2 : (s.size : Int) - a < n := by omega
    clear h
    go_enter Try.func35, Try.ntmps35
    go_wp2
    go_ret2
    exact ⟨rfl, Below.refl _ _⟩
theorem take_any (s : ByteArray) (a n : Int) (w : World) (hs : s.size ≤ 140737488351232) :
    Calls Try.prog 35 #[.string s, .int .i64 a, .int .i64 n] w fun e w' => e = .returned (.tuple #[.int .u64 ((takeF s a n).1 : Nat), .int .i64 (takeF s a n).2]) ∧ Below w.heap.size w w' := by
  by_cases c : n < 1 ∨ 8 < n ∨ a < 0
  · have e : takeF s a n = (0, 1) := if_pos c
    rw [e]
    exact take_bad s a n w c
  · by_cases c2 : (s.size : Int) < a + n
    · have e : takeF s a n = (0, 3) := by unfold takeF; rw [if_neg c, if_pos c2]
      rw [e]
      exact take_short s a n w (by omega) (by omega) (by omega) c2
    · have e : takeF s a n = (takeN s a.toNat n.toNat, 0) := by unfold takeF; rw [if_neg c, if_neg c2]
      rw [e]
      obtain ⟨x, rfl⟩ := Int.eq_ofNat_of_zero_le (a := a) (by omega)
      obtain ⟨y, rfl⟩ := Int.eq_ofNat_of_zero_le (a := n) (by omega)
      exact take_ok s x y w hs (by omega) (by omega) (by omega)
end Go.Proofs.Ytcoddeemfdnjpaa

namespace Go.Proofs.Ytcoddeemfdnjpaa.FieldPlain
open Go.RowKit CrcPlain NumPlain _root_.Go.Proofs.Ytcoddeemfdnjpaa.Fn Go.Proofs.YtcoddeemfdnjpaaW.PrintMore
open Go.Proofs.YtcoddeemfdnjpaaW.PrintWords hiding nums nums_length
def ints (l : List Nat) : List Int := l.map fun n : Nat => (n : Int)
/-- what a call of Put tells, and its error -/
def putF (s : ByteArray) (n : Nat) (size : Int) : ByteArray × Int :=
  if size < 1 ∨ 8 < size ∨ 256 ^ size.toNat ≤ n then (⟨#[]⟩, 1) else (s ++ strOfNums (ints (numL size.toNat n)), 0)
theorem ints_length (l : List Nat) : (ints l).length = l.length := by simp [ints]
theorem ints_append (a b : List Nat) : ints (a ++ b) = ints a ++ ints b := by simp [ints]
theorem put_l0 (s : ByteArray) : ∀ (i k n : Nat) (t : List Int), i < k → i + t.length ≤ 8 → s.size + 8 ≤ 9223372036854775807 →
    field_Put.l0 k s (n : Int) (List.replicate i 0 ++ t) ((i : Int) - 1) = some (s ++ strOfNums (ints (numL i n) ++ t), 0)
  | 0, k, n, t, hk, ht, hs => by
    obtain ⟨k, rfl⟩ : ∃ m, k = m + 1 := ⟨k - 1, by omega⟩
    simp only [field_Put.l0]
    rw [if_neg (by omega), if_pos (by rw [strOfNums_size]; simp; omega)]
    rfl
  | i + 1, k, n, t, hk, ht, hs => by
    obtain ⟨k, rfl⟩ : ∃ m, k = m + 1 := ⟨k - 1, by omega⟩
    simp only [field_Put.l0]
    have e0 : ((i + 1 : Nat) : Int) - 1 = (i : Int) := by omega
    rw [e0, if_pos (by omega), if_pos (by omega), if_pos (by simp; omega)]
    have e1 : (List.replicate (i + 1) (0 : Int) ++ t).set (i : Int).toNat ((n : Int) % 256) = List.replicate i 0 ++ (((n % 256 : Nat) : Int) :: t) := by
      rw [Int.toNat_natCast, List.replicate_succ', List.append_assoc]
      rw [List.set_append_right _ _ (by simp)]
      simp
    have e2 : wrap64 ((i : Int) - 1) = (i : Int) - 1 := by unfold wrap64; omega
    have e3 : ((n : Int) / 256) = ((n / 256 : Nat) : Int) := by omega
    rw [e1, e2, e3, put_l0 s i k (n / 256) _ (by omega) (by simp; omega) hs]
    simp [numL, ints]
theorem put_f (s : ByteArray) (n : Nat) (size : Int) (hn : n < 18446744073709551616) (hs : s.size + 8 ≤ 9223372036854775807) : field_Put.f 12 s (n : Int) size = some (putF s n size) := by
  unfold field_Put.f putF
  by_cases c1 : size < 1
  · rw [if_pos c1, if_pos (.inl c1)]; simp [field_Put.j0]
  · by_cases c2 : size > 8
    · rw [if_neg c1, if_pos c2, if_pos (.inr (.inl (by omega)))]; simp [field_Put.j0]
    · rw [if_neg c1, if_neg c2]
      obtain ⟨z, rfl⟩ := Int.eq_ofNat_of_zero_le (a := size) (by omega)
      have hz : 1 ≤ z ∧ z ≤ 8 := by omega
      have go : ∀ b : Bool, (b = true ↔ 256 ^ z ≤ n) → field_Put.j0 12 s (n : Int) (z : Int) b = some (if (z : Int) < 1 ∨ 8 < (z : Int) ∨ 256 ^ (z : Int).toNat ≤ n then (⟨#[]⟩, 1) else (s ++ strOfNums (ints (numL (z : Int).toNat n)), 0)) := by
        intro b hb
        simp only [field_Put.j0, Int.toNat_natCast]
        by_cases h : 256 ^ z ≤ n
        · rw [if_pos (hb.2 h), if_pos (.inr (.inr h))]
        · have hb' : ¬ b = true := fun e => h (hb.1 e)
          have hr : ¬ ((z : Int) < 1 ∨ 8 < (z : Int) ∨ 256 ^ z ≤ n) := by
            intro hh
            rcases hh with h1 | h1 | h1
            · omega
            · omega
            · exact h h1
          rw [if_neg hb', if_pos (by omega), if_pos (by omega), if_neg hr]
          have e2 : wrap64 ((z : Int) - 1) = (z : Int) - 1 := by unfold wrap64; omega
          have := put_l0 s z 11 n [] (by omega) (by simp; omega) hs
          rw [List.append_nil, List.append_nil] at this
          rw [e2, this]
      by_cases c3 : (z : Int) < 8
      · have e8 : wrap64 (8 * (z : Int)) = 8 * (z : Int) := by unfold wrap64; omega
        rw [if_pos c3, e8, if_pos (by omega)]
        refine go _ ?_
        rw [decide_eq_true_iff]
        have hzz : z = 1 ∨ z = 2 ∨ z = 3 ∨ z = 4 ∨ z = 5 ∨ z = 6 ∨ z = 7 := by omega
        rcases hzz with rfl | rfl | rfl | rfl | rfl | rfl | rfl <;> simp [shr, IntKind.bits] <;> omega
      · obtain rfl : z = 8 := by omega
        rw [if_neg c3]
        refine go _ ?_
        simp
        omega
theorem numL_cons : ∀ j n, numL (j + 1) n = (n / 256 ^ j % 256) :: numL j n
  | 0, n => by simp [numL]
  | j + 1, n => by
    rw [numL, numL_cons j (n / 256), numL]
    simp only [List.cons_append, List.cons.injEq, and_true]
    rw [Nat.div_div_eq_div_mul, Nat.pow_succ, Nat.mul_comm]
/-- the reference's inner loop: n divided by 256 so many times -/
theorem refPut_l1 (s : ByteArray) (n : Int) (size : Int) (b : List Int) (kk : Nat) (hk8 : kk < 8) : ∀ (d i k m : Nat), i + d = kk → d < k → m < 18446744073709551616 →
    rollbookref01_Put.l1 k s n size b (kk : Int) (m : Int) (i : Int) = rollbookref01_Put.l1 (k - d) s n size b (kk : Int) ((m / 256 ^ d : Nat) : Int) (kk : Int)
  | 0, i, k, m, hi, hk, hm => by
    obtain rfl : i = kk := by omega
    simp
  | d + 1, i, k, m, hi, hk, hm => by
    obtain ⟨k, rfl⟩ : ∃ q, k = q + 1 := ⟨k - 1, by omega⟩
    simp only [rollbookref01_Put.l1]
    rw [if_pos (by omega)]
    have e1 : IntKind.u64.wrap (Int.tdiv (m : Int) 256) = ((m / 256 : Nat) : Int) := by
      rw [Int.tdiv_eq_ediv_of_nonneg (by omega)]
      simp [IntKind.wrap, IntKind.bits, IntKind.signed]
      omega
    have e2 : wrap64 ((i : Int) + 1) = ((i + 1 : Nat) : Int) := by unfold wrap64; omega
    rw [e1, e2, refPut_l1 s n size b kk hk8 d (i + 1) k (m / 256) (by omega) (by omega) (by omega)]
    rw [show k + 1 - (d + 1) = k - d by omega, Nat.div_div_eq_div_mul, Nat.pow_succ, Nat.mul_comm 256]
theorem refPut_l0 (s : ByteArray) (n : Nat) (z : Nat) (hz : z ≤ 8) (hn : n < 18446744073709551616) (hs : s.size + 8 ≤ 9223372036854775807) : ∀ (j k : Nat) (b : List Int), j ≤ z → b.length + j = z → j * 10 < k → (j = z → n < 256 ^ z) →
    rollbookref01_Put.l0 k s (n : Int) (z : Int) b ((j : Int) - 1) = some (s ++ strOfNums (b ++ ints (numL j n)), 0)
  | 0, k, b, _, hb, hk, _ => by
    obtain ⟨k, rfl⟩ : ∃ q, k = q + 1 := ⟨k - 1, by omega⟩
    simp only [rollbookref01_Put.l0]
    rw [if_neg (by omega), if_pos (by rw [strOfNums_size]; omega)]
    simp [numL, ints]
  | j + 1, k, b, hj, hb, hk, hfit => by
    obtain ⟨k, rfl⟩ : ∃ q, k = q + 1 := ⟨k - 1, by omega⟩
    simp only [rollbookref01_Put.l0]
    have e0 : ((j + 1 : Nat) : Int) - 1 = (j : Int) := by omega
    rw [e0, if_pos (by omega)]
    have hl1 := refPut_l1 s (n : Int) (z : Int) b j (by omega) j 0 k n (by omega) (by omega) hn
    rw [show ((0 : Nat) : Int) = 0 from rfl] at hl1
    rw [hl1]
    obtain ⟨q, hq⟩ : ∃ q, k - j = q + 1 := ⟨k - j - 1, by omega⟩
    rw [hq]
    simp only [rollbookref01_Put.l1]
    have hm : n / 256 ^ j < 18446744073709551616 := Nat.lt_of_le_of_lt (Nat.div_le_self _ _) hn
    have e3 : Int.tmod ((n / 256 ^ j : Nat) : Int) 256 % 256 = ((n / 256 ^ j % 256 : Nat) : Int) := by
      rw [Int.tmod_eq_emod_of_nonneg (Int.natCast_nonneg _)]
      omega
    have e4 : wrap64 ((j : Int) - 1) = (j : Int) - 1 := by unfold wrap64; omega
    have e5 : wrap64 ((z : Int) - 1) = (z : Int) - 1 := by unfold wrap64; omega
    have ih := refPut_l0 s n z hz hn hs j q (b ++ [((n / 256 ^ j % 256 : Nat) : Int)]) (by omega) (by simp; omega) (by omega) (by omega)
    have fin : s ++ strOfNums (b ++ [((n / 256 ^ j % 256 : Nat) : Int)] ++ ints (numL j n)) = s ++ strOfNums (b ++ ints (numL (j + 1) n)) := by
      rw [numL_cons]
      simp [ints]
    rw [fin] at ih
    rw [if_neg (by omega), e3, e4, e5]
    by_cases c : (j : Int) = (z : Int) - 1
    · have hf := hfit (by omega)
      have h255 : n / 256 ^ j ≤ 255 := by
        have hzj : z = j + 1 := by omega
        rw [hzj, Nat.pow_succ] at hf
        have := (Nat.div_lt_iff_lt_mul (Nat.pow_pos (n := j) (show 0 < 256 by decide))).2 (show n < 256 * 256 ^ j by rw [Nat.mul_comm]; exact hf)
        omega
      rw [if_pos c, if_neg (by omega), if_pos (by omega), ih]
    · rw [if_neg c, if_pos (by omega), ih]
theorem refPut_f (s : ByteArray) (n : Nat) (size : Int) (hn : n < 18446744073709551616) (hs : s.size + 8 ≤ 9223372036854775807) : rollbookref01_Put.f 100 s (n : Int) size = some (putF s n size) := by
  unfold rollbookref01_Put.f putF
  by_cases c1 : size < 1
  · rw [if_pos c1, if_pos (.inl c1)]; simp [rollbookref01_Put.j0]
  · by_cases c2 : size > 8
    · rw [if_neg c1, if_pos (.inr (.inl (by omega)))]; simp [rollbookref01_Put.j0, c2]
    · rw [if_neg c1]
      obtain ⟨z, rfl⟩ := Int.eq_ofNat_of_zero_le (a := size) (by omega)
      have e5 : wrap64 ((z : Int) - 1) = (z : Int) - 1 := by unfold wrap64; omega
      rw [decide_eq_false c2]
      simp only [rollbookref01_Put.j0, Bool.false_eq_true, if_false, Int.toNat_natCast]
      rw [e5]
      by_cases h : 256 ^ z ≤ n
      · rw [if_pos (.inr (.inr h))]
        obtain ⟨j, rfl⟩ : ∃ j, z = j + 1 := ⟨z - 1, by omega⟩
        have e0 : ((j + 1 : Nat) : Int) - 1 = (j : Int) := by omega
        rw [e0]
        simp only [rollbookref01_Put.l0]
        rw [if_pos (by omega)]
        have hl1 := refPut_l1 s (n : Int) ((j + 1 : Nat) : Int) [] j (by omega) j 0 98 n (by omega) (by omega) hn
        rw [show ((0 : Nat) : Int) = 0 from rfl] at hl1
        rw [hl1]
        obtain ⟨q, hq⟩ : ∃ q, 98 - j = q + 1 := ⟨98 - j - 1, by omega⟩
        rw [hq]
        simp only [rollbookref01_Put.l1]
        have h256 : 256 ≤ n / 256 ^ j := by
          rw [Nat.pow_succ] at h
          exact (Nat.le_div_iff_mul_le (Nat.pow_pos (n := j) (show 0 < 256 by decide))).2 (by rw [Nat.mul_comm]; exact h)
        have e6 : wrap64 (((j + 1 : Nat) : Int) - 1) = (j : Int) := by unfold wrap64; omega
        rw [if_neg (by omega), e6, if_pos rfl, if_pos (by omega)]
      · have hr : ¬ ((z : Int) < 1 ∨ 8 < (z : Int) ∨ 256 ^ z ≤ n) := by
          intro hh
          rcases hh with h1 | h1 | h1
          · omega
          · omega
          · exact h h1
        rw [if_neg hr]
        have := refPut_l0 s n z (by omega) hn hs z 99 [] (Nat.le_refl _) (by simp) (by omega) (fun _ => by omega)
        rw [List.nil_append] at this
        exact this
theorem bt_nums (s : ByteArray) (i : Nat) (h : i < s.size) : bt s (i : Int) = (((nums s).getD i 0 : Nat) : Int) := by
  unfold bt nums
  rw [Int.toNat_natCast, dif_pos h]
  simp [List.getD_eq_getElem?_getD, h]
  rfl
theorem nums_extract (s : ByteArray) (a b : Nat) : nums (s.extract a b) = ((nums s).take b).drop a := by
  unfold nums
  rw [ByteArray.data_extract, Array.toList_extract, List.extract_eq_take_drop, ← List.map_take, ← List.map_drop, List.drop_take]
theorem refTake_l0 (s : ByteArray) (a n : Nat) (hn : n ≤ 8) (h : a + n ≤ s.size) (hs : s.size + 8 ≤ 9223372036854775807) : ∀ (d i k : Nat), i + d = n → d < k →
    rollbookref01_Take.l0 k s (a : Int) (n : Int) ((valN ((nums (s.extract a (a + n))).take i) : Nat) : Int) (i : Int) = some (((takeN s a n : Nat) : Int), 0)
  | 0, i, k, hi, hk => by
    obtain ⟨k, rfl⟩ : ∃ q, k = q + 1 := ⟨k - 1, by omega⟩
    obtain rfl : i = n := by omega
    simp only [rollbookref01_Take.l0]
    rw [if_neg (by omega), List.take_of_length_le (by rw [nums_length, ByteArray.size_extract]; omega)]
    rfl
  | d + 1, i, k, hi, hk => by
    obtain ⟨k, rfl⟩ : ∃ q, k = q + 1 := ⟨k - 1, by omega⟩
    simp only [rollbookref01_Take.l0]
    have e1 : wrap64 ((a : Int) + (i : Int)) = ((a + i : Nat) : Int) := by unfold wrap64; omega
    have e2 : wrap64 ((i : Int) + 1) = ((i + 1 : Nat) : Int) := by unfold wrap64; omega
    rw [e1, e2, if_pos (by omega), if_pos (by omega), if_pos (by omega), bt_nums s (a + i) (by omega)]
    have hl : (nums (s.extract a (a + n))).length = n := by rw [nums_length, ByteArray.size_extract]; omega
    have hg : (nums s).getD (a + i) 0 = (nums (s.extract a (a + n)))[i]'(by omega) := by
      simp only [nums_extract, List.getElem_drop, List.getElem_take]
      rw [List.getD_eq_getElem?_getD, List.getElem?_eq_getElem (by rw [nums_length]; omega)]
      rfl
    have hlt := valN_take_lt (nums (s.extract a (a + n))) (nums_lt _) i (by omega)
    have hpow : 256 ^ i ≤ 256 ^ 7 := Nat.pow_le_pow_right (by decide) (by omega)
    have h7 : (256 : Nat) ^ 7 = 72057594037927936 := by decide
    have hb : (nums s).getD (a + i) 0 < 256 := getD_lt (nums_lt s) _
    have e3 : IntKind.u64.wrap (IntKind.u64.wrap (((valN ((nums (s.extract a (a + n))).take i) : Nat) : Int) * 256) + IntKind.u64.wrap (((nums s).getD (a + i) 0 : Nat) : Int)) = ((valN ((nums (s.extract a (a + n))).take (i + 1)) : Nat) : Int) := by
      rw [List.take_succ_eq_append_getElem (by omega), valN_snoc, ← hg]
      obtain ⟨v, hv⟩ : ∃ v, v = valN ((nums (s.extract a (a + n))).take i) := ⟨_, rfl⟩
      obtain ⟨c, hc⟩ : ∃ c, c = (nums s).getD (a + i) 0 := ⟨_, rfl⟩
      rw [← hv] at hlt ⊢
      rw [← hc] at hb ⊢
      simp [IntKind.wrap, IntKind.bits, IntKind.signed]
      omega
    rw [e3]
    exact refTake_l0 s a n hn h hs d (i + 1) k (by omega) (by omega)
theorem refTake_f (s : ByteArray) (a n : Int) (hs : s.size + 8 ≤ 9223372036854775807) : rollbookref01_Take.f 12 s a n = some ((((takeF s a n).1 : Nat) : Int), (takeF s a n).2) := by
  unfold rollbookref01_Take.f takeF
  by_cases c1 : n < 1
  · rw [if_pos c1, if_pos (.inl c1)]; simp [rollbookref01_Take.j0]
  · by_cases c2 : n > 8
    · rw [if_neg c1, if_pos c2, if_pos (.inr (.inl (by omega)))]; simp [rollbookref01_Take.j0]
    · rw [if_neg c1, if_neg c2]
      by_cases c3 : a < 0
      · rw [if_pos (.inr (.inr c3)), decide_eq_true c3]; simp [rollbookref01_Take.j0]
      · rw [decide_eq_false c3, if_neg (by omega)]
        simp only [rollbookref01_Take.j0, Bool.false_eq_true, if_false]
        obtain ⟨x, rfl⟩ := Int.eq_ofNat_of_zero_le (a := a) (by omega)
        obtain ⟨y, rfl⟩ := Int.eq_ofNat_of_zero_le (a := n) (by omega)
        have e1 : wrap64 ((s.size : Int) - (y : Int)) = (s.size : Int) - (y : Int) := by unfold wrap64; omega
        rw [e1]
        by_cases c4 : (x : Int) > (s.size : Int) - (y : Int)
        · rw [if_pos c4, if_pos (by omega)]; rfl
        · rw [if_neg c4, if_neg (by omega)]
          have := refTake_l0 s x y (by omega) (by omega) hs y 0 11 (by omega) (by omega)
          simpa [valN] using this
end Go.Proofs.Ytcoddeemfdnjpaa.FieldPlain

namespace Go.Proofs.Ytcoddeemfdnjpaa.PagePlain
open Go.RowKit CrcPlain NumPlain FieldPlain
open Go.Proofs.YtcoddeemfdnjpaaW.PrintMore
open Go.Proofs.YtcoddeemfdnjpaaW.PrintWords hiding nums nums_length nums_append
/-- a number in so many bytes -/
def numB (z n : Nat) : ByteArray := strOfNums (ints (numL z n))
theorem numB_size (z n : Nat) : (numB z n).size = z := by rw [numB, strOfNums_size, ints_length, numL_length]
theorem nums_numB (z n : Nat) : nums (numB z n) = numL z n := by
  unfold numB nums ints
  rw [strOfNums_data, List.map_map, List.map_map]
  conv => rhs; rw [← List.map_id (numL z n)]
  apply List.map_congr_left
  intro c hc
  have := numL_lt z n c hc
  simp [Nat.mod_eq_of_lt this]
def zerosB (n : Nat) : ByteArray := ⟨(List.replicate n (0 : UInt8)).toArray⟩
theorem zerosB_size (n : Nat) : (zerosB n).size = n := by show Array.size _ = _; simp
theorem nums_zerosB (n : Nat) : nums (zerosB n) = List.replicate n 0 := by simp [nums, zerosB]
theorem nums_inj {a b : ByteArray} (h : nums a = nums b) : a = b := by
  cases a; cases b
  simp only [nums] at h
  simp only [ByteArray.mk.injEq]
  exact Array.toList_inj.1 (List.map_inj_right (fun _ _ e => UInt8.toNat.inj e) |>.1 h)
theorem nums_ext (s : ByteArray) (a n : Nat) : nums (s.extract a (a + n)) = ((nums s).drop a).take n := by
  rw [nums_extract, List.drop_take]
  congr 1
  omega
theorem mid (A B C : List Nat) (a n : Nat) (ha : A.length = a) (hb : B.length = n) : ((A ++ (B ++ C)).drop a).take n = B := by
  rw [List.drop_left' ha, List.take_left' hb]
theorem take_mid (s : ByteArray) (A C : List Nat) (z n a : Nat) (h : nums s = A ++ (numL z n ++ C)) (ha : A.length = a) (hn : n < 256 ^ z) : takeN s a z = n := by
  unfold takeN
  rw [nums_ext, h, mid A (numL z n) C a z ha (numL_length z n), valN_numL z n hn]
theorem put_any (s : ByteArray) (n : Nat) (size : Int) (w : World) (hn : n < 18446744073709551616) (hs : s.size + 8 ≤ 9223372036854775807) :
    Calls Try.prog 38 #[.string s, .int .u64 (n : Int), .int .i64 size] w fun e w' => e = .returned (.tuple #[.string (putF s n size).1, .int .i64 (putF s n size).2]) ∧ Below w.heap.size w w' :=
  Fn.field_Put.calls 12 s n size _ _ w (put_f s n size hn hs)
theorem put_fk (s : ByteArray) (n : Nat) (size : Int) (hn : n < 18446744073709551616) (hs : s.size + 8 ≤ 9223372036854775807) : ∀ d, Fn.field_Put.f (12 + d) s (n : Int) size = some (putF s n size)
  | 0 => put_f s n size hn hs
  | d + 1 => Fn.field_Put.mono _ _ _ _ _ (put_fk s n size hn hs d)
theorem refPut_fk (s : ByteArray) (n : Nat) (size : Int) (hn : n < 18446744073709551616) (hs : s.size + 8 ≤ 9223372036854775807) : ∀ d, Fn.rollbookref01_Put.f (100 + d) s (n : Int) size = some (putF s n size)
  | 0 => refPut_f s n size hn hs
  | d + 1 => Fn.rollbookref01_Put.mono _ _ _ _ _ (refPut_fk s n size hn hs d)
theorem number_f (n z k : Nat) (h1 : 1 ≤ z) (h8 : z ≤ 8) (hn : n < 256 ^ z) (hn2 : n < 9223372036854775808) (hk : 100 ≤ k) : Fn.rollbookref04_Number.f k (n : Int) (z : Int) = some (numB z n) := by
  obtain ⟨d, rfl⟩ : ∃ d, k = 100 + d := ⟨k - 100, by omega⟩
  unfold Fn.rollbookref04_Number.f
  have hw : IntKind.u64.wrap ((n : Nat) : Int) = ((n : Nat) : Int) := by
    show ((n : Nat) : Int) % 18446744073709551616 = _
    omega
  have hp := refPut_fk ⟨#[]⟩ n (z : Int) (by omega) (by decide) d
  have hpf : putF ⟨#[]⟩ n (z : Int) = (⟨#[]⟩ ++ numB z n, 0) := by
    unfold putF
    rw [Int.toNat_natCast, if_neg (by omega)]
    rfl
  rw [hw, hp, Option.bind_some, hpf]
  congr 1
end Go.Proofs.Ytcoddeemfdnjpaa.PagePlain
