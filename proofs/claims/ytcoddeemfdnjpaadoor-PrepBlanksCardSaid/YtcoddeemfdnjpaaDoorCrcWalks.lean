/- The walks of the sums: what crc.On, crc.Sum and the reference's On and Sum come to, where the table of sixteen sums is laid. -/
import Derived.Test.YtcoddeemfdnjpaaDoorProg
import Derived.Test.YtcoddeemfdnjpaaDoorCrcPlain
import Derived.WalkKit
import Derived.WalkSpells
import Derived.WalkLawsBesides
import Derived.Laws.BitsAllLaws
import Derived.Lib.Hide
namespace Go.Proofs.YtcoddeemfdnjpaaDoor
open Go.RowKit CrcPlain
theorem ret_int {k : IntKind} {a b : Int} (h : a = b) : Ending.returned (.int k a) = Ending.returned (.int k b) := by rw [h]
def HasTab (w : World) : Prop := ∀ i, i < 16 → w.cell? ⟨0, i, none⟩ = some (.int .u32 (tabN.getD i 0 : Nat))
theorem xor_var (a b : Nat) (ha : a < 4294967296) (hb : b < 4294967296) : ∃ c : Nat, bits .xor .u32 (a : Int) (b : Int) = (c : Int) ∧ c < 4294967296 ∧ Hid (c = a ^^^ b) :=
  ⟨a ^^^ b, u32_xor_nat a b ha hb, Nat.xor_lt_two_pow (n := 32) ha hb, rfl⟩
theorem and_var (a : Nat) (ha : a < 4294967296) : ∃ j : Nat, bits .and .u32 (a : Int) 15 = (j : Int) ∧ j < 16 ∧ Hid (j = a % 16) := by
  refine ⟨a &&& 15, u32_and_nat a 15 ha (by omega), ?_, ?_⟩
  · have := @Nat.and_le_right a 15; omega
  · exact Nat.and_two_pow_sub_one_eq_mod a 4
/-- one nibble's facts, for the walk -/
theorem nib_var (w : World) (hT : HasTab w) (x : Nat) (hx : x < 4294967296) :
    ∃ j t y : Nat, bits .and .u32 (x : Int) 15 = (j : Int) ∧ j < 16 ∧ w.cell? ⟨0, j, none⟩ = some (.int .u32 (t : Nat)) ∧ bits .xor .u32 ((x : Int) / 16) (t : Int) = (y : Int) ∧ y < 4294967296 ∧ Hid (y = nib x) := by
  obtain ⟨j, e, hj, h⟩ := and_var x hx
  obtain rfl : j = x % 16 := h
  have hc := hT _ hj
  obtain ⟨y, e2, hy, h2⟩ := xor_var (x / 16) (tabN.getD (x % 16) 0) (by omega) (tab_lt _)
  exact ⟨_, _, y, e, hj, hc, by simpa using e2, hy, h2⟩
theorem not_var (x : Nat) (hx : x < 4294967296) : ∃ y : Nat, bits .xor .u32 IntKind.u32.max (x : Int) = (y : Int) ∧ y < 4294967296 ∧ Hid (y = 4294967295 - x) := by
  obtain ⟨c, e, hc, h⟩ := xor_var 4294967295 x (by decide) hx
  exact ⟨c, e, hc, h.trans (not32 x hx)⟩
theorem byte_var (x : Nat) (hx : x < 4294967296) (u : UInt8) : ∃ c : Nat, bits .xor .u32 (x : Int) (((u.toNat : Nat) : Int) % 4294967296) = (c : Int) ∧ c < 4294967296 ∧ Hid (c = x ^^^ u.toNat) := by
  have hb := u.toNat_lt
  have h1 : ((u.toNat : Nat) : Int) % 4294967296 = ((u.toNat : Nat) : Int) := by omega
  rw [h1]
  exact xor_var x _ hx (by omega)
set_option maxHeartbeats 400000 in
theorem crcOn (sum : Nat) (s : ByteArray) (w : World) (hs : s.size ≤ maxLen) (hsum : sum < 4294967296) (hT : HasTab w) :
    Calls Tryd.prog 22 #[.int .u32 (sum : Int), .string s] w fun e w' => e = .returned (.int .u32 (onN sum s : Nat)) ∧ w = w' := by
  unfold maxLen at hs
  obtain ⟨r0, e0, b0, h0⟩ := not_var sum hsum
  go_enter Tryd.func22, Tryd.ntmps22
  go_wp2
  clear e0
  go_loop [5, 11] (fun r i => ∃ k x : Nat, k ≤ s.size ∧ x < 4294967296 ∧ Hid (x = reg r0 ((nums s).take k)) ∧ i = .int .i64 k ∧ r = .int .u32 x) (fun _ i => s.size - (intOf i).toNat)
  case atStart => exact ⟨0, r0, by omega, b0, rfl, rfl, rfl⟩
  case round =>
    obtain ⟨k, x, hk, hx, hr, rfl, rfl⟩ := hrel
    by_cases hlt : k < s.size
    · obtain ⟨x1, e1, b1, h1⟩ := byte_var x hx s[k]
      obtain ⟨j1, t1, x2, e2, l2, c2, e3, b2, h2⟩ := nib_var w hT x1 b1
      obtain ⟨j2, t2, x3, e4, l4, c4, e5, b3, h3⟩ := nib_var w hT x2 b2
      go_wp2
      go_round
      case rel => exact ⟨k + 1, x3, by omega, b3, by rw [h3.out, h2.out, h1.out, hr.out, nib_nib, reg_snoc _ _ _ hlt]; rfl, by go_num, rfl⟩
      case measure => simp [intOf]; omega
    · obtain ⟨y, e1, b1, h1⟩ := not_var x hx
      go_wp2
      go_ret
      refine ⟨?_, rfl⟩
      rw [h1.out, hr.out, h0.out, reg_all _ _ _ hlt]
      rfl
set_option maxHeartbeats 400000 in
theorem refOn (sum : Nat) (s : ByteArray) (w : World) (hs : s.size ≤ maxLen) (hsum : sum < 4294967296) :
    Calls Tryd.prog 23 #[.int .u32 (sum : Int), .string s] w fun e w' => e = .returned (.int .u32 (onN sum s : Nat)) ∧ w = w' := by
  unfold maxLen at hs
  obtain ⟨r0, b0, h0⟩ : ∃ r0 : Nat, r0 < 4294967296 ∧ Hid (r0 = 4294967295 - sum) := ⟨_, by omega, rfl⟩
  go_enter Tryd.func23, Tryd.ntmps23
  go_wp2
  go_loop [5, 6] (fun r i => ∃ k x : Nat, k ≤ s.size ∧ x < 4294967296 ∧ Hid (x = reg r0 ((nums s).take k)) ∧ i = .int .i64 k ∧ r = .int .u32 x) (fun _ i => s.size - (intOf i).toNat)
  case atStart => exact ⟨0, r0, by omega, b0, rfl, rfl, by rw [h0.out]; go_num⟩
  case round =>
    obtain ⟨k, x, hk, hx, hr, rfl, rfl⟩ := hrel
    by_cases hlt : k < s.size
    · obtain ⟨x1, e1, b1, h1⟩ := byte_var x hx s[k]
      go_wp2
      go_loop [5, 7] (fun r j => ∃ n y : Nat, n ≤ 8 ∧ y < 4294967296 ∧ Hid (y = stepN n x1) ∧ j = .int .i64 n ∧ r = .int .u32 y) (fun _ j => 8 - (intOf j).toNat)
      case atStart => exact ⟨0, x1, by omega, b1, rfl, rfl, rfl⟩
      case round =>
        obtain ⟨n, y, hn, hy, hr1, rfl, rfl⟩ := hrel
        by_cases hn8 : n < 8
        · obtain ⟨z, e3, b3, h3⟩ := xor_var (y / 2) 3988292384 (by omega) (by decide)
          simp only [Int.natCast_ediv, Int.cast_ofNat_Int] at e3
          by_cases ho : y % 2 = 1
          · have hb : (((y : Nat) : Int) % 2 == 1) = true := by rw [beq_iff_eq]; omega
            have ho' := Lib.hid ho
            clear ho
            go_wp2
            go_round
            case rel => exact ⟨n + 1, z, by omega, b3, by rw [h3.out, hr1.out]; rw [hr1.out] at ho'; exact (if_pos ho'.out).symm, by go_num, rfl⟩
            case measure => simp [intOf]; omega
          · have hb : (((y : Nat) : Int) % 2 == 1) = false := by rw [beq_eq_false_iff_ne]; omega
            have ho' := Lib.hid ho
            clear ho
            go_wp2
            go_round
            case rel => exact ⟨n + 1, y / 2, by omega, by omega, by rw [hr1.out]; rw [hr1.out] at ho'; exact (if_neg ho'.out).symm, by go_num, by go_num⟩
            case measure => simp [intOf]; omega
        · go_wp2
          go_round
          case rel => exact ⟨k + 1, y, by omega, hy, by obtain rfl : n = 8 := by omega
                                                        rw [hr1.out, stepN_8, h1.out, hr.out, reg_snoc _ _ _ hlt]; rfl, by go_num, rfl⟩
          case measure => simp [intOf]; omega
    · go_wp2
      go_ret
      refine ⟨?_, rfl⟩
      have e : onN sum s = 4294967295 - x := by rw [hr.out, h0.out, reg_all _ _ _ hlt]; rfl
      rw [e]
      exact ret_int (by omega)
set_option maxHeartbeats 400000 in
theorem crcSum (s : ByteArray) (w : World) (hs : s.size ≤ maxLen) (hT : HasTab w) :
    Calls Tryd.prog 24 #[.string s] w fun e w' => e = .returned (.int .u32 (onN 0 s : Nat)) ∧ w = w' := by
  have hT' := Lib.hid hT
  clear hT
  go_enter Tryd.func24, Tryd.ntmps24
  go_wp2_with (go_at_call 22; refine (crcOn 0 s _ hs (by decide) hT'.out).mono ?_; rintro e w' ⟨rfl, rfl⟩)
  go_ret
  exact ⟨rfl, rfl⟩
set_option maxHeartbeats 400000 in
theorem refSum (s : ByteArray) (w : World) (hs : s.size ≤ maxLen) :
    Calls Tryd.prog 25 #[.string s] w fun e w' => e = .returned (.int .u32 (onN 0 s : Nat)) ∧ w = w' := by
  go_enter Tryd.func25, Tryd.ntmps25
  go_wp2_with (go_at_call 23; refine (refOn 0 s _ hs (by decide)).mono ?_; rintro e w' ⟨rfl, rfl⟩)
  go_ret
  exact ⟨rfl, rfl⟩
theorem sum_digits : (onN 0 ⟨#[49, 50, 51, 52, 53, 54, 55, 56, 57]⟩ : Nat) = 3421780262 := by decide +kernel
theorem sum_none : (onN 0 ⟨#[]⟩ : Nat) = 0 := by decide +kernel
set_option maxHeartbeats 400000 in
theorem crcAwake (w : World) (hT : HasTab w) :
    Calls Tryd.prog 21 #[] w fun e w' => e = .returned (.bool true) ∧ w = w' := by
  have hT' := Lib.hid hT
  clear hT
  go_enter Tryd.func21, Tryd.ntmps21
  go_wp2_with fail
  refine (crcSum _ _ (by decide) hT'.out).mono ?_
  rintro e w' ⟨rfl, rfl⟩
  rw [sum_digits]
  go_wp2_with fail
  refine (crcSum _ _ (by decide) hT'.out).mono ?_
  rintro e w' ⟨rfl, rfl⟩
  rw [sum_none]
  go_wp2_with fail
  go_ret
  exact ⟨rfl, rfl⟩
set_option maxHeartbeats 400000 in
theorem crcSums_walk (sum : Nat) (s : ByteArray) (w : World) (hs : s.size ≤ maxLen) (hsum : sum < 4294967296) (hT : HasTab w) :
    Calls Tryd.prog 3 #[.int .u32 (sum : Int), .string s] w fun e w' => e = .returned (.bool true) ∧ w = w' := by
  have hT' := Lib.hid hT
  clear hT
  go_enter Tryd.func3, Tryd.ntmps3
  go_wp2_with fail
  refine (crcAwake _ hT'.out).mono ?_
  rintro e w' ⟨rfl, rfl⟩
  go_wp2_with fail
  refine (crcOn _ _ _ hs hsum hT'.out).mono ?_
  rintro e w' ⟨rfl, rfl⟩
  go_wp2_with fail
  refine (refOn _ _ _ hs hsum).mono ?_
  rintro e w' ⟨rfl, rfl⟩
  go_wp2_with fail
  refine (crcSum _ _ hs hT'.out).mono ?_
  rintro e w' ⟨rfl, rfl⟩
  go_wp2_with fail
  refine (refSum _ _ hs).mono ?_
  rintro e w' ⟨rfl, rfl⟩
  go_wp2_with fail
  go_ret
  exact ⟨rfl, rfl⟩
set_option maxHeartbeats 400000 in
theorem crcJoins_walk (a b : ByteArray) (w : World) (ha : a.size ≤ 140737488351232) (hb : b.size ≤ 140737488351232) (hT : HasTab w) :
    Calls Tryd.prog 4 #[.string a, .string b] w fun e w' => e = .returned (.bool true) ∧ w = w' := by
  have hT' := Lib.hid hT
  clear hT
  have hab : (a ++ b).size ≤ maxLen := by rw [ByteArray.size_append]; unfold maxLen; omega
  have hj := Lib.hid (onN_join a b)
  go_enter Tryd.func4, Tryd.ntmps4
  go_wp2_with fail
  refine (crcAwake _ hT'.out).mono ?_
  rintro e w' ⟨rfl, rfl⟩
  go_wp2_with fail
  refine (crcSum _ _ (by unfold maxLen; omega) hT'.out).mono ?_
  rintro e w' ⟨rfl, rfl⟩
  go_wp2_with fail
  refine (crcOn _ _ _ (by unfold maxLen; omega) (onN_lt _ _) hT'.out).mono ?_
  rintro e w' ⟨rfl, rfl⟩
  rw [hj.out]
  go_wp2_with fail
  refine (crcSum _ _ hab hT'.out).mono ?_
  rintro e w' ⟨rfl, rfl⟩
  go_wp2_with fail
  go_ret
  exact ⟨rfl, rfl⟩
end Go.Proofs.YtcoddeemfdnjpaaDoor
