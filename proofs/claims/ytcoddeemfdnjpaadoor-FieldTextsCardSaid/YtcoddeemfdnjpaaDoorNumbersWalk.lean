/- The walk of the law on numbers. -/
import Derived.Test.YtcoddeemfdnjpaaDoorFieldPlain
import Derived.Test.YtcoddeemfdnjpaaDoorAwakeField
namespace Go.Proofs.YtcoddeemfdnjpaaDoor
open Go.RowKit CrcPlain NumPlain FieldPlain
theorem put_any (s : ByteArray) (n : Nat) (size : Int) (w : World) (hn : n < 18446744073709551616) (hs : s.size + 8 ≤ 9223372036854775807) :
    Calls Tryd.prog 48 #[.string s, .int .u64 (n : Int), .int .i64 size] w fun e w' => e = .returned (.tuple #[.string (putF s n size).1, .int .i64 (putF s n size).2]) ∧ Below w.heap.size w w' :=
  Fn.field_Put.calls 12 s n size _ _ w (put_f s n size hn hs)
theorem refPut_any (s : ByteArray) (n : Nat) (size : Int) (w : World) (hn : n < 18446744073709551616) (hs : s.size + 8 ≤ 9223372036854775807) :
    Calls Tryd.prog 49 #[.string s, .int .u64 (n : Int), .int .i64 size] w fun e w' => e = .returned (.tuple #[.string (putF s n size).1, .int .i64 (putF s n size).2]) ∧ Below w.heap.size w w' :=
  Fn.rollbookref01_Put.calls 100 s n size _ _ w (refPut_f s n size hn hs)
theorem refTake_any (s : ByteArray) (a n : Int) (w : World) (hs : s.size + 8 ≤ 9223372036854775807) :
    Calls Tryd.prog 51 #[.string s, .int .i64 a, .int .i64 n] w fun e w' => e = .returned (.tuple #[.int .u64 ((takeF s a n).1 : Nat), .int .i64 (takeF s a n).2]) ∧ Below w.heap.size w w' :=
  (Fn.rollbookref01_Take.calls 12 s a n _ _ w (refTake_f s a n hs)).mono fun _ _ ⟨h, hd⟩ => ⟨h, hd.below⟩
theorem put_take (s : ByteArray) (n z : Nat) (h1 : 1 ≤ z) (h8 : z ≤ 8) (hn : n < 256 ^ z) : takeF (s ++ strOfNums (ints (numL z n))) (s.size : Int) (z : Int) = (n, 0) := by
  have hsz : (s ++ strOfNums (ints (numL z n))).size = s.size + z := by rw [ByteArray.size_append, strOfNums_size, ints_length, numL_length]
  unfold takeF
  rw [if_neg (by omega), hsz, if_neg (by omega)]
  simp only [Int.toNat_natCast, Prod.mk.injEq, and_true]
  unfold takeN
  have e : nums ((s ++ strOfNums (ints (numL z n))).extract s.size (s.size + z)) = numL z n := by
    rw [nums_extract, nums_append, List.take_of_length_le (by simp [nums_length, strOfNums_size, ints_length, numL_length]), List.drop_left' (nums_length s)]
    unfold nums ints
    rw [strOfNums_data, List.map_map, List.map_map]
    conv => rhs; rw [← List.map_id (numL z n)]
    apply List.map_congr_left
    intro c hc
    have := numL_lt z n c hc
    simp [Nat.mod_eq_of_lt this]
  rw [e, valN_numL z n hn]
set_option maxHeartbeats 400000 in
set_option maxRecDepth 100000 in
theorem fieldNumbers_long (s : ByteArray) (n : Nat) (size a : Int) (m : Int) (w : World) (hs : 9000 < s.size) (hm : w.cell? ⟨1, 0, none⟩ = some (.int .i64 m)) :
    Calls Tryd.prog 13 #[.string s, .int .u64 (n : Int), .int .i64 size, .int .i64 a] w fun e w' => e = .returned (.bool true) ∧ Below w.heap.size w w' := by
  have hm' := Lib.hid hm
  clear hm
  go_enter Tryd.func13, Tryd.ntmps13
  go_wp2_with fail
  refine (awake01 m _ hm'.out).mono ?_
  rintro e w2 ⟨rfl, hb2⟩
  have hb2' := Lib.hid hb2
  clear hb2
  go_wp2
  go_ret
  exact ⟨rfl, hb2'.out⟩
set_option maxHeartbeats 400000 in
set_option maxRecDepth 100000 in
theorem fieldNumbers_go (s : ByteArray) (n : Nat) (size a : Int) (m : Int) (w : World) (hs : s.size ≤ 9000) (hn : n < 18446744073709551616) (hm : w.cell? ⟨1, 0, none⟩ = some (.int .i64 m)) :
    Calls Tryd.prog 13 #[.string s, .int .u64 (n : Int), .int .i64 size, .int .i64 a] w fun e w' => e = .returned (.bool true) ∧ Below w.heap.size w w' := by
  have hm' := Lib.hid hm
  have hn' := Lib.hid hn
  clear hm hn
  go_enter Tryd.func13, Tryd.ntmps13
  go_wp2_with fail
  refine (awake01 m _ hm'.out).mono ?_
  rintro e w2 ⟨rfl, hb2⟩
  have hb2' := Lib.hid hb2
  clear hb2
  go_wp2_with fail
  refine (put_any s n size _ hn'.out (by omega)).mono ?_
  rintro e w3 ⟨rfl, hb3⟩
  have hb3' := Lib.hid (hb2'.out.trans (hb3.mono hb2'.out.size))
  clear hb3 hb2'
  go_wp2_with fail
  refine (refPut_any s n size _ hn'.out (by omega)).mono ?_
  rintro e w4 ⟨rfl, hb4⟩
  have hb4' := Lib.hid (hb3'.out.trans (hb4.mono hb3'.out.size))
  clear hb4 hb3'
  go_wp2_with fail
  refine (take_any s a size _ (by omega)).mono ?_
  rintro e w5 ⟨rfl, hb5⟩
  have hb5' := Lib.hid (hb4'.out.trans (hb5.mono hb4'.out.size))
  clear hb5 hb4'
  go_wp2_with fail
  refine (refTake_any s a size _ (by omega)).mono ?_
  rintro e w6 ⟨rfl, hb6⟩
  have hb6' := Lib.hid (hb5'.out.trans (hb6.mono hb5'.out.size))
  clear hb6 hb5'
  by_cases hbad : size < 1 ∨ 8 < size ∨ 256 ^ size.toNat ≤ n
  · have e1 : putF s n size = (⟨#[]⟩, 1) := if_pos hbad
    rw [e1]
    clear hbad e1
    go_wp2
    go_ret
    exact ⟨rfl, hb6'.out⟩
  · have e1 : putF s n size = (s ++ strOfNums (ints (numL size.toNat n)), 0) := if_neg hbad
    rw [e1]
    obtain ⟨z, rfl⟩ := Int.eq_ofNat_of_zero_le (a := size) (by omega)
    rw [Int.toNat_natCast] at hbad ⊢
    obtain ⟨x, hx⟩ : ∃ x, x = s ++ strOfNums (ints (numL z n)) := ⟨_, rfl⟩
    have hxs : x.size ≤ 9008 := by rw [hx, ByteArray.size_append, strOfNums_size, ints_length, numL_length]; omega
    have htk : Hid (takeF x (s.size : Int) (z : Int) = (n, 0)) := by rw [hx]; exact put_take s n z (by omega) (by omega) (by omega)
    rw [← hx]
    clear hx hbad e1
    go_wp2_with fail
    refine (take_any x (s.size : Int) (z : Int) _ (by omega)).mono ?_
    rw [htk.out]
    rintro e w7 ⟨rfl, hb7⟩
    have hb7' := Lib.hid (hb6'.out.trans (hb7.mono hb6'.out.size))
    clear hb7
    go_wp2
    go_ret
    exact ⟨rfl, hb7'.out⟩
theorem fieldNumbers_walk (s : ByteArray) (n : Nat) (size a : Int) (m : Int) (w : World) (hn : n < 18446744073709551616) (hm : w.cell? ⟨1, 0, none⟩ = some (.int .i64 m)) :
    Calls Tryd.prog 13 #[.string s, .int .u64 (n : Int), .int .i64 size, .int .i64 a] w fun e w' => e = .returned (.bool true) ∧ Below w.heap.size w w' := by
  by_cases h : 9000 < s.size
  · exact fieldNumbers_long s n size a m w h hm
  · exact fieldNumbers_go s n size a m w (by omega) hn hm
end Go.Proofs.YtcoddeemfdnjpaaDoor
