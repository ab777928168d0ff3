/- The walks of turned and of mixed. -/
import Derived.Test.YtcoddeemfdnjpaaDoorTellPlain
import Derived.Test.YtcoddeemfdnjpaaDoorTellsWalk
import Derived.Test.YtcoddeemfdnjpaaDoorFnBase
import Derived.Test.YtcoddeemfdnjpaaDoorFn46
namespace Go.Proofs.YtcoddeemfdnjpaaDoor.PagePlain
open Go.RowKit CrcPlain NumPlain FieldPlain
open Go.Proofs.YtcoddeemfdnjpaaDoorW.PrintMore
open Go.Proofs.YtcoddeemfdnjpaaDoorW.PrintWords hiding nums nums_length nums_append
/-- where the turning begins -/
def placeN (i : Int) (n : Nat) : Nat := (i % 18446744073709551616).toNat % (n - 3)
theorem placeN_lt (i : Int) (n : Nat) (h : 4 ≤ n) : placeN i n + 4 ≤ n := by
  unfold placeN
  have := Nat.mod_lt (i % 18446744073709551616).toNat (show 0 < n - 3 by omega)
  omega
theorem place_is (i : Int) (n : Nat) (h : 4 ≤ n) (hn : n ≤ 2000) : wrap64 ((IntKind.u64.wrap i).tmod ((n : Int) - 3)) = ((placeN i n : Nat) : Int) := by
  have e : IntKind.u64.wrap i = i % 18446744073709551616 := rfl
  rw [e]
  unfold placeN
  obtain ⟨u, hu⟩ : ∃ u : Nat, i % 18446744073709551616 = u := ⟨(i % 18446744073709551616).toNat, by omega⟩
  rw [hu, show (n : Int) - 3 = ((n - 3 : Nat) : Int) by omega, Int.tmod_eq_emod_of_nonneg (by omega), Int.toNat_natCast]
  have hlt := Nat.mod_lt u (show 0 < n - 3 by omega)
  have e2 : (u : Int) % ((n - 3 : Nat) : Int) = ((u % (n - 3) : Nat) : Int) := (Int.natCast_emod _ _).symm
  rw [e2]
  obtain ⟨v, hv⟩ : ∃ v, v = u % (n - 3) := ⟨_, rfl⟩
  rw [← hv] at hlt ⊢
  unfold wrap64
  omega
set_option maxHeartbeats 800000 in
set_option maxRecDepth 100000 in
theorem turned_any (s : ByteArray) (i : Int) (b : Nat) (w : World) (hs : 4 ≤ s.size) (hs2 : s.size ≤ 2000) :
    Calls Tryd.prog 45 #[.string s, .int .i64 i, .int .u32 (b : Int)] w fun e w' => e = .returned (.string (turned s (placeN i s.size) b 4)) ∧ Below w.heap.size w w' := by
  obtain ⟨cap, w1, hconv, hb1, hz1, hc1, hf1, hcap⟩ := bytes_of w s
  have hA := place_is i s.size hs hs2
  have hab := placeN_lt i s.size hs
  obtain ⟨a, ha⟩ : ∃ a, a = placeN i s.size := ⟨_, rfl⟩
  rw [← ha] at hA hab ⊢
  have H0 : Hid (Turning s a b w.heap.size w 0 w1) := ⟨hb1, by omega, fun j hj => by rw [turnN_zero]; exact hc1 j hj, hf1⟩
  obtain ⟨t, ht⟩ : ∃ t, t = turned s a b 4 := ⟨_, rfl⟩
  rw [← ht]
  have ht' := Lib.hid ht
  have hA' := Lib.hid hA
  clear hc1 hf1 ha hA ht
  go_enter Tryd.func45, Tryd.ntmps45
  go_wp2_with fail
  rw [hA'.out]
  go_loopw [8] (fun i wr => ∃ k : Nat, k ≤ 4 ∧ i = .int .i64 k ∧ Turning s a b w.heap.size w k wr) (fun i _ => 4 - (intOf i).toNat)
  case atStart => exact ⟨0, by omega, rfl, H0⟩
  case round =>
    obtain ⟨k, hk, rfl, hr⟩ := hrel
    by_cases hlt : k < 4
    · have hc := hr.cell (a + k) (by omega)
      have hf := hr.free (a + k) (by omega)
      obtain ⟨v, ev, bv, hv⟩ := xor8_var (turnN (nums s) a b k (a + k)) (b / 2 ^ (8 * k) % 256) (turnN_lt (nums_lt s) _ _ _ _) (by omega)
      have hstep := Lib.hid (hr.step v hv.out)
      obtain ⟨tn, htn⟩ : ∃ tn, tn = turnN (nums s) a b k (a + k) := ⟨_, rfl⟩
      rw [← htn] at hc ev
      simp only [Int.natCast_emod, Int.natCast_ediv, Int.natCast_pow, Int.cast_ofNat_Int] at ev
      clear htn hr hv
      go_wp2
      go_region
      go_wp2
      go_roundw
      case rel => exact ⟨k + 1, by omega, by go_num, hstep.out⟩
      case measure => simp [intOf]; omega
    · obtain rfl : k = 4 := by omega
      have hback := turned_back s a b w.heap.size cap w wr hr
      have hbel := Lib.hid hr.below
      rw [← ht'.out] at hback
      clear hr
      go_wp2
      go_ret
      exact ⟨rfl, hbel.out⟩
/-! ### mixed -/
theorem byte_is (b k : Nat) (hk : k < 4) : shr .u32 (b : Int) (wrap64 (8 * (k : Int))) % 256 = ((b / 2 ^ (8 * k) % 256 : Nat) : Int) := by
  have e : wrap64 (8 * (k : Int)) = ((8 * k : Nat) : Int) := by unfold wrap64; omega
  rw [e]
  unfold shr
  rw [Int.toNat_natCast, Nat.min_eq_left (show 8 * k ≤ IntKind.bits .u32 by show 8 * k ≤ 32; omega)]
  rw [Int.natCast_emod, Int.natCast_ediv, Int.natCast_pow]
  rfl
theorem mixed_step (a b sum k : Nat) (ha : a ≤ 2000) (hsum : sum ≤ 100) (hk : k < 4) (x y : Bool) (n : Nat) :
    Fn.rollbooklaw04_mixed.l0 (n + 1) (a : Int) (b : Int) (sum : Int) x y (k : Int) = Fn.rollbooklaw04_mixed.l0 n (a : Int) (b : Int) (sum : Int) (x || (nzB b k && inB a sum k)) (y || (nzB b k && !inB a sum k)) ((k + 1 : Nat) : Int) := by
  have e1 : wrap64 ((k : Int) + 1) = ((k + 1 : Nat) : Int) := by unfold wrap64; omega
  have e2 : wrap64 ((a : Int) + (k : Int)) = ((a + k : Nat) : Int) := by unfold wrap64; omega
  have e3 : wrap64 ((sum : Int) + 4) = ((sum + 4 : Nat) : Int) := by unfold wrap64; omega
  have e4 : (0 : Int) ≤ wrap64 (8 * (k : Int)) := by unfold wrap64; omega
  have hby := byte_is b k hk
  rw [Fn.rollbooklaw04_mixed.l0, if_pos (by omega), if_pos e4, hby, e1, e2, e3]
  unfold nzB inB
  obtain ⟨c, hc⟩ : ∃ c, c = b / 2 ^ (8 * k) % 256 := ⟨_, rfl⟩
  rw [← hc]
  by_cases h0 : c = 0
  · rw [if_pos (by omega)]
    simp [h0]
  · rw [if_neg (by omega)]
    by_cases h1 : sum ≤ a + k
    · rw [if_pos (by omega)]
      by_cases h2 : a + k < sum + 4
      · rw [if_pos (by omega)]
        simp [h0, h1, h2]
      · rw [if_neg (by omega)]
        simp [h0, h1, h2]
    · rw [if_neg (by omega)]
      simp [h0, h1]
theorem mixed_f (s : ByteArray) (i : Int) (b sum : Nat) (hs : 4 ≤ s.size) (hs2 : s.size ≤ 2000) (hsum : sum ≤ 100) :
    Fn.rollbooklaw04_mixed.f 5 s i (b : Int) (sum : Int) = some (mixB (placeN i s.size) b sum && outB (placeN i s.size) b sum) := by
  have hw3 : wrap64 ((s.size : Int) - 3) = (s.size : Int) - 3 := by unfold wrap64; omega
  have hu3 : IntKind.u64.wrap ((s.size : Int) - 3) = (s.size : Int) - 3 := by
    show ((s.size : Int) - 3) % 18446744073709551616 = _
    omega
  have hA := place_is i s.size hs hs2
  have hab := placeN_lt i s.size hs
  unfold Fn.rollbooklaw04_mixed.f
  rw [hw3, hu3, if_neg (by omega), hA]
  obtain ⟨a, ha⟩ : ∃ a, a = placeN i s.size := ⟨_, rfl⟩
  rw [← ha] at hab ⊢
  have m0 := mixed_step a b sum 0 (by omega) hsum (by decide) false false 4
  have m1 := fun x y => mixed_step a b sum 1 (by omega) hsum (by decide) x y 3
  have m2 := fun x y => mixed_step a b sum 2 (by omega) hsum (by decide) x y 2
  have m3 := fun x y => mixed_step a b sum 3 (by omega) hsum (by decide) x y 1
  have m0' : Fn.rollbooklaw04_mixed.l0 5 (a : Int) (b : Int) (sum : Int) false false 0 = _ := m0
  rw [m0']
  show Fn.rollbooklaw04_mixed.l0 (3 + 1) _ _ _ _ _ ((1 : Nat) : Int) = _
  rw [m1]
  show Fn.rollbooklaw04_mixed.l0 (2 + 1) _ _ _ _ _ ((2 : Nat) : Int) = _
  rw [m2]
  show Fn.rollbooklaw04_mixed.l0 (1 + 1) _ _ _ _ _ ((3 : Nat) : Int) = _
  rw [m3]
  rw [Fn.rollbooklaw04_mixed.l0, if_neg (by decide)]
  have g1 : ((((false || (nzB b 0 && inB a sum 0)) || (nzB b 1 && inB a sum 1)) || (nzB b 2 && inB a sum 2)) || (nzB b 3 && inB a sum 3)) = mixB a b sum := by unfold mixB; rw [Bool.false_or]
  have g2 : ((((false || (nzB b 0 && !inB a sum 0)) || (nzB b 1 && !inB a sum 1)) || (nzB b 2 && !inB a sum 2)) || (nzB b 3 && !inB a sum 3)) = outB a b sum := by unfold outB; rw [Bool.false_or]
  rw [g1, g2]
  cases mixB a b sum
  · rfl
  · rfl
theorem mixed_any (s : ByteArray) (i : Int) (b sum : Nat) (w : World) (hs : 4 ≤ s.size) (hs2 : s.size ≤ 2000) (hsum : sum ≤ 100) :
    Calls Tryd.prog 46 #[.string s, .int .i64 i, .int .u32 (b : Int), .int .i64 (sum : Int)] w fun e w' => e = .returned (.bool (mixB (placeN i s.size) b sum && outB (placeN i s.size) b sum)) ∧ Below w.heap.size w w' :=
  (Fn.rollbooklaw04_mixed.calls 5 s i b sum _ w (mixed_f s i b sum hs hs2 hsum)).mono fun _ _ ⟨h1, h2⟩ => ⟨h1, h2.below⟩
end Go.Proofs.YtcoddeemfdnjpaaDoor.PagePlain
