/- The walk of field.Take: the number of so many bytes, the highest first. -/
import Derived.Test.YtcoddeemfdnjpaaDoorTellsWalk
import Derived.Test.YtcoddeemfdnjpaaDoorNumPlain
namespace Go.Proofs.YtcoddeemfdnjpaaDoor
open Go.RowKit CrcPlain NumPlain
theorem or64_var (m c : Nat) (hm : m < 72057594037927936) (hc : c < 256) : bits .or .u64 (((m : Nat) : Int) * 256) (c : Int) = ((m * 256 + c : Nat) : Int) := by
  have := u64_or_nat (m * 256) c (by omega) (by omega)
  rw [or_add m c hc] at this
  rw [← this]
  simp
set_option maxHeartbeats 400000 in
set_option maxRecDepth 100000 in
theorem take_ok (s : ByteArray) (a n : Nat) (w : World) (hs : s.size ≤ 140737488351232) (h1 : 1 ≤ n) (h8 : n ≤ 8) (ha : a + n ≤ s.size) :
    Calls Tryd.prog 50 #[.string s, .int .i64 (a : Int), .int .i64 (n : Int)] w fun e w' => e = .returned (.tuple #[.int .u64 (takeN s a n : Nat), .int .i64 0]) ∧ Below w.heap.size w w' := by
  have hts : (s.extract a (a + n)).size = n := by rw [ByteArray.size_extract]; omega
  have hval : Hid (takeN s a n = valN (nums (s.extract a (a + n)))) := rfl
  obtain ⟨t, ht⟩ : ∃ t, s.extract a (a + n) = t := ⟨_, rfl⟩
  rw [ht] at hts hval
  obtain ⟨cap, w1, hconv, hb1, hz1, hc1, hf1, hcap⟩ := bytes_of w t
  rw [hts] at hconv
  have hc1' := Lib.hid hc1
  have htl := Lib.hid (show (nums t).length = n by rw [nums_length]; exact hts)
  have hts' := Lib.hid hts
  clear hc1 hf1 hcap hts
  go_enter Tryd.func50, Tryd.ntmps50
  go_wp2
  go_loop [43, 8] (fun i v => ∃ k : Nat, ∃ x : Nat, k ≤ n ∧ i = .int .i64 k ∧ v = .int .u64 x ∧ Hid (x = valN ((nums t).take k))) (fun i _ => n - (intOf i).toNat)
  case atStart => exact ⟨0, 0, by omega, rfl, rfl, rfl⟩
  case round =>
    obtain ⟨k, x, hk, rfl, rfl, hx⟩ := hrel
    by_cases hlt : k < n
    · have hc := hc1'.out k (by rw [hts'.out]; exact hlt)
      have hxl : x < 72057594037927936 := by
        have h7 := valN_take_lt (nums t) (nums_lt t) k (by rw [htl.out]; omega)
        have h56 : 256 ^ k ≤ 256 ^ 7 := Nat.pow_le_pow_right (by decide) (by omega)
        rw [← hx.out] at h7
        have : (256 : Nat) ^ 7 = 72057594037927936 := by decide
        omega
      have hcl : (nums t).getD k 0 < 256 := getD_lt (nums_lt t) k
      have hv : Hid (x * 256 + (nums t).getD k 0 = valN ((nums t).take (k + 1))) := by
        show _ = _
        rw [List.take_succ_eq_append_getElem (by rw [htl.out]; exact hlt), valN_snoc, ← hx.out, nums_getD t k (by rw [htl.out]; exact hlt)]
      obtain ⟨c, hcd⟩ : ∃ c, c = (nums t).getD k 0 := ⟨_, rfl⟩
      rw [← hcd] at hc hcl hv
      clear hcd hx
      have e1 := or64_var x c hxl hcl
      have e2 : IntKind.u64.wrap (((x : Nat) : Int) * 256) = ((x : Nat) : Int) * 256 := by
        simp [IntKind.wrap, IntKind.bits, IntKind.signed]; omega
      go_wp2
      go_round
      case rel => exact ⟨k + 1, x * 256 + c, by omega, by go_num, by go_num, hv⟩
      case measure => simp [intOf]; omega
    · go_wp2
      go_ret2
      have e : takeN s a n = x := by rw [hval.out, hx.out, List.take_of_length_le (by rw [htl.out]; omega)]
      rw [e]
      exact ⟨rfl, hb1⟩
/-- the number that a call of Take tells, and its error -/
def takeF (s : ByteArray) (a n : Int) : Nat × Int :=
  if n < 1 ∨ 8 < n ∨ a < 0 then (0, 1) else if (s.size : Int) < a + n then (0, 3) else (takeN s a.toNat n.toNat, 0)
set_option maxHeartbeats 400000 in
set_option maxRecDepth 100000 in
theorem take_bad (s : ByteArray) (a n : Int) (w : World) (h : n < 1 ∨ 8 < n ∨ a < 0) :
    Calls Tryd.prog 50 #[.string s, .int .i64 a, .int .i64 n] w fun e w' => e = .returned (.tuple #[.int .u64 0, .int .i64 1]) ∧ Below w.heap.size w w' := by
  by_cases c1 : n < 1
  · clear h
    go_enter Tryd.func50, Tryd.ntmps50
    go_wp2
    go_ret2
    exact ⟨rfl, Below.refl _ _⟩
  · by_cases c2 : 8 < n
    · clear h
      go_enter Tryd.func50, Tryd.ntmps50
      go_wp2
      go_ret2
      exact ⟨rfl, Below.refl _ _⟩
    · have c3 : a < 0 := by omega
      clear h
      go_enter Tryd.func50, Tryd.ntmps50
      go_wp2
      go_ret2
      exact ⟨rfl, Below.refl _ _⟩
set_option maxHeartbeats 400000 in
set_option maxRecDepth 100000 in
theorem take_short (s : ByteArray) (a n : Int) (w : World) (h1 : 1 ≤ n) (h8 : n ≤ 8) (h0 : 0 ≤ a) (h : (s.size : Int) < a + n) :
    Calls Tryd.prog 50 #[.string s, .int .i64 a, .int .i64 n] w fun e w' => e = .returned (.tuple #[.int .u64 0, .int .i64 3]) ∧ Below w.heap.size w w' := by
  by_cases c1 : (s.size : Int) < a
  · clear h
    go_enter Tryd.func50, Tryd.ntmps50
    go_wp2
    go_ret2
    exact ⟨rfl, Below.refl _ _⟩
  · have c2 : (s.size : Int) - a < n := by omega
    clear h
    go_enter Tryd.func50, Tryd.ntmps50
    go_wp2
    go_ret2
    exact ⟨rfl, Below.refl _ _⟩
theorem take_any (s : ByteArray) (a n : Int) (w : World) (hs : s.size ≤ 140737488351232) :
    Calls Tryd.prog 50 #[.string s, .int .i64 a, .int .i64 n] w fun e w' => e = .returned (.tuple #[.int .u64 ((takeF s a n).1 : Nat), .int .i64 (takeF s a n).2]) ∧ Below w.heap.size w w' := by
  by_cases c : n < 1 ∨ 8 < n ∨ a < 0
  · have e : takeF s a n = (0, 1) := if_pos c
    rw [e]
    exact take_bad s a n w c
  · by_cases c2 : (s.size : Int) < a + n
    · have e : takeF s a n = (0, 3) := by unfold takeF; rw [if_neg c, if_pos c2]
      rw [e]
      exact take_short s a n w (by omega) (by omega) (by omega) c2
    · have e : takeF s a n = (takeN s a.toNat n.toNat, 0) := by unfold takeF; rw [if_neg c, if_neg c2]
      rw [e]
      obtain ⟨x, rfl⟩ := Int.eq_ofNat_of_zero_le (a := a) (by omega)
      obtain ⟨y, rfl⟩ := Int.eq_ofNat_of_zero_le (a := n) (by omega)
      exact take_ok s x y w hs (by omega) (by omega) (by omega)
end Go.Proofs.YtcoddeemfdnjpaaDoor
