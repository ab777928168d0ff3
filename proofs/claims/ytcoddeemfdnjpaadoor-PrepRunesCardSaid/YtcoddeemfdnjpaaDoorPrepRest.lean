/- The walks of the laws PrepBlanks and PrepRunes. -/
import Derived.Test.YtcoddeemfdnjpaaDoorPrepLaws
import Derived.Deep.QuietTactic
import Derived.BigQuiet
import Derived.Laws.BitsLemmas
namespace Go.Proofs.YtcoddeemfdnjpaaDoor.PrepPlain
open Go.RowKit
open Go.Proofs.YtcoddeemfdnjpaaDoorW.PrintMore
open Go.Proofs.YtcoddeemfdnjpaaDoorW.PrintWords hiding nums nums_length nums_append
theorem st_runes (w : World) (m : Int) (s : ByteArray) (hs : s.size ≤ 100000) (v : World) (hv : St w m v) :
    Calls Tryd.prog 36 #[.string s] v fun e w' => ∃ x, e = .returned (.tuple #[x, .int .i64 (runesP s).2]) ∧ Kd.R (Kd.int .i32) 21 w' v.heap.size (fun _ => True) x (runesP s).1 ∧ St w m w' ∧ Below v.heap.size v w' :=
  (runes_any s v hs).mono fun _ _ ⟨x, h1, h2, h3⟩ => ⟨x, h1, h2, hv.next h3, h3⟩
theorem st_refRunes (w : World) (m : Int) (s : ByteArray) (hs : s.size ≤ 100000) (v : World) (hv : St w m v) :
    Calls Tryd.prog 66 #[.string s] v fun e w' => ∃ x, e = .returned (.tuple #[x, .int .i64 (runesP s).2]) ∧ Kd.R (Kd.int .i32) 21 w' v.heap.size (fun _ => True) x (runesP s).1 ∧ St w m w' ∧ Below v.heap.size v w' :=
  (Fn.rollbookref13_Runes.calls 300000 s _ _ v (refRunes_f s hs 300000 (by omega))).mono fun _ _ ⟨x, h1, h2, h3⟩ => ⟨x, h1, h2, hv.next h3, h3⟩
theorem and7 (n : Int) : bits .and .i64 n 7 = n % 8 := by
  have h7 : (BitVec.ofInt 64 7).toNat = 2 ^ 3 - 1 := by decide
  have key : (BitVec.ofInt 64 n &&& BitVec.ofInt 64 7).toNat = (n % ((2 ^ 64 : Nat) : Int)).toNat % 2 ^ 3 := by
    rw [BitVec.toNat_and, BitVec.toNat_ofInt, h7, Nat.and_two_pow_sub_one_eq_mod]
  show IntKind.i64.wrap ((BitVec.ofInt 64 n &&& BitVec.ofInt 64 7).toNat : Nat) = n % 8
  rw [key, IntKind.wrap_i64]
  omega
/-- so many blanks, as bytes -/
def blankB (k : Nat) : ByteArray := ⟨(textL (blanksR k)).toArray⟩
theorem blank_step (k : Nat) : blankB k ++ ⟨#[194, 160, 226, 128, 139, 9]⟩ = blankB (k + 1) := by
  have e : textL (blanksR (k + 1)) = textL (blanksR k) ++ [194, 160, 226, 128, 139, 9] := by
    show textL (blanksR k ++ [160, 8203, 9]) = _
    rw [textL_append]
    rfl
  unfold blankB
  rw [e]
  apply ByteArray.ext
  simp [ByteArray.data_append]
theorem blank_zero : blankB 0 = ⟨#[32]⟩ := rfl
theorem blank_size : ∀ k, (blankB k).size = 1 + 6 * k
  | 0 => rfl
  | k + 1 => by
    rw [← blank_step, ByteArray.size_append, blank_size k]
    show 1 + 6 * k + 6 = _
    omega
theorem blanks_same (k : Nat) (a b : ByteArray) (x y : List Nat) (ha : runesL a.data.toList = some x) (hb : runesL b.data.toList = some y) :
    sameT (blankB k ++ a ++ blankB k ++ b ++ blankB k).data.toList (a ++ ⟨#[32]⟩ ++ b).data.toList = true := by
  have h := blanks k a.data.toList b.data.toList x y ha hb
  have e1 : (blankB k ++ a ++ blankB k ++ b ++ blankB k).data.toList = textL (blanksR k) ++ a.data.toList ++ textL (blanksR k) ++ b.data.toList ++ textL (blanksR k) := by
    simp [ByteArray.data_append, blankB]
  have e2 : (a ++ ⟨#[32]⟩ ++ b).data.toList = a.data.toList ++ [32] ++ b.data.toList := by
    simp [ByteArray.data_append]
  rw [e1, e2]
  exact h
theorem runesP_err (s : ByteArray) (h : runesL s.data.toList = none) : (runesP s).2 = 19 := by unfold runesP; rw [h]
theorem runesP_ok (s : ByteArray) (l : List Nat) (h : runesL s.data.toList = some l) : (runesP s).2 = 0 := by unfold runesP; rw [h]
set_option maxHeartbeats 4000000 in
set_option maxRecDepth 100000 in
theorem prepBlanks_walk (a b : ByteArray) (more m : Int) (w : World) (hm : w.cell? ⟨1, 0, none⟩ = some (.int .i64 m)) : Calls Tryd.prog 9 #[.string a, .string b, .int .i64 more] w fun e w' => e = .returned (.bool true) ∧ Below w.heap.size w w' := by
  have hS0 := Lib.hid (St.start hm)
  have haw := Lib.hid (st_awake w m)
  clear hm
  by_cases ha : a.size ≤ 1000
  · by_cases hb : b.size ≤ 1000
    · have cra := Lib.hid (st_runes w m a (by omega))
      have crb := Lib.hid (st_runes w m b (by omega))
      cases g1 : runesL a.data.toList with
      | none =>
        rw [runesP_err a g1] at cra
        clear g1
        go_enter Tryd.func9, Tryd.ntmps9
        go_wp2_with fail
        refine (haw.out _ hS0.out).mono ?_
        rintro e w2 ⟨rfl, hS2⟩
        have hS2' := Lib.hid hS2
        clear hS2
        go_wp2_with fail
        refine (cra.out _ hS2'.out).mono ?_
        rintro e w3 ⟨x3, rfl, -, hS3, -⟩
        have hS3' := Lib.hid hS3
        clear hS3
        go_wp2
        go_ret
        exact ⟨rfl, hS3'.out.1⟩
      | some x =>
        rw [runesP_ok a x g1] at cra
        cases g2 : runesL b.data.toList with
        | none =>
          rw [runesP_err b g2] at crb
          clear g1 g2
          go_enter Tryd.func9, Tryd.ntmps9
          go_wp2_with fail
          refine (haw.out _ hS0.out).mono ?_
          rintro e w2 ⟨rfl, hS2⟩
          have hS2' := Lib.hid hS2
          clear hS2
          go_wp2_with fail
          refine (cra.out _ hS2'.out).mono ?_
          rintro e w3 ⟨x3, rfl, -, hS3, -⟩
          have hS3' := Lib.hid hS3
          clear hS3
          go_wp2_with fail
          refine (crb.out _ hS3'.out).mono ?_
          rintro e w4 ⟨x4, rfl, -, hS4, -⟩
          have hS4' := Lib.hid hS4
          clear hS4
          go_wp2
          go_ret
          exact ⟨rfl, hS4'.out.1⟩
        | some y =>
          rw [runesP_ok b y g2] at crb
          obtain ⟨n, hn⟩ : ∃ n : Nat, bits .and .i64 more 7 = (n : Int) ∧ n ≤ 7 := ⟨(more % 8).toNat, by rw [and7]; omega, by omega⟩
          obtain ⟨hn, hn7⟩ := hn
          have hbl := Lib.hid (blanks_same n a b x y g1 g2)
          have hsame : Hid (∀ v : World, St w m v → Calls Tryd.prog 34 #[.string (blankB n ++ a ++ blankB n ++ b ++ blankB n), .string (a ++ ⟨#[32]⟩ ++ b)] v fun e w' => e = .returned (.bool true) ∧ St w m w') := by
            intro v hv
            have h := st_same w m (blankB n ++ a ++ blankB n ++ b ++ blankB n) (a ++ ⟨#[32]⟩ ++ b) (by simp only [ByteArray.size_append, blank_size]; omega) (by simp only [ByteArray.size_append]; show a.size + 1 + b.size ≤ _; omega) v hv
            rw [hbl.out] at h
            exact h
          clear g1 g2
          go_enter Tryd.func9, Tryd.ntmps9
          go_wp2_with fail
          refine (haw.out _ hS0.out).mono ?_
          rintro e w2 ⟨rfl, hS2⟩
          have hS2' := Lib.hid hS2
          clear hS2
          go_wp2_with fail
          refine (cra.out _ hS2'.out).mono ?_
          rintro e w3 ⟨x3, rfl, -, hS3, -⟩
          have hS3' := Lib.hid hS3
          clear hS3
          go_wp2_with fail
          refine (crb.out _ hS3'.out).mono ?_
          rintro e w4 ⟨x4, rfl, -, hS4, -⟩
          have hS4' := Lib.hid hS4
          clear hS4
          go_wp2_with fail
          go_loop [11, 12] (fun t i => ∃ k : Nat, k ≤ n ∧ t = .string (blankB k) ∧ i = .int .i64 k) (fun _ i => n - (intOf i).toNat)
          case atStart => exact ⟨0, by omega, rfl, rfl⟩
          case round =>
            obtain ⟨k, hk, rfl, rfl⟩ := hrel
            by_cases hlt : k < n
            · have hst := Lib.hid (blank_step k)
              have hz : (blankB k).size + (⟨#[194, 160, 226, 128, 139, 9]⟩ : ByteArray).size ≤ 9223372036854775807 := by
                rw [blank_size]
                show 1 + 6 * k + 6 ≤ _
                omega
              obtain ⟨B, hB⟩ : ∃ B, B = blankB k := ⟨_, rfl⟩
              rw [← hB] at hst hz ⊢
              clear hB
              go_wp2
              go_round
              case rel => exact ⟨k + 1, by omega, by rw [hst.out], by go_num⟩
              case measure => simp [intOf]; omega
            · obtain rfl : k = n := by omega
              have hzk := blank_size k
              obtain ⟨B, hB⟩ : ∃ B, B = blankB k := ⟨_, rfl⟩
              rw [← hB] at hsame hzk ⊢
              clear hB
              have q1 : B.size + a.size ≤ 9223372036854775807 := by omega
              have q2 : (B ++ a).size + B.size ≤ 9223372036854775807 := by rw [ByteArray.size_append]; omega
              have q3 : (B ++ a ++ B).size + b.size ≤ 9223372036854775807 := by rw [ByteArray.size_append, ByteArray.size_append]; omega
              have q4 : (B ++ a ++ B ++ b).size + B.size ≤ 9223372036854775807 := by rw [ByteArray.size_append, ByteArray.size_append, ByteArray.size_append]; omega
              have q5 : a.size + (⟨#[32]⟩ : ByteArray).size ≤ 9223372036854775807 := by show a.size + 1 ≤ _; omega
              have q6 : (a ++ (⟨#[32]⟩ : ByteArray)).size + b.size ≤ 9223372036854775807 := by rw [ByteArray.size_append]; show a.size + 1 + b.size ≤ _; omega
              clear hzk
              go_wp2_with fail
              refine (hsame.out _ hS4'.out).mono ?_
              rintro e w5 ⟨rfl, hS5⟩
              have hS5' := Lib.hid hS5
              clear hS5
              go_wp2
              go_ret
              exact ⟨rfl, hS5'.out.1⟩
    · have hs2 : (1000 : Int) < (b.size : Int) := by omega
      go_enter Tryd.func9, Tryd.ntmps9
      go_wp2_with fail
      refine (haw.out _ hS0.out).mono ?_
      rintro e w2 ⟨rfl, hS2⟩
      go_wp2
      go_ret
      exact ⟨rfl, hS2.1⟩
  · have hs2 : (1000 : Int) < (a.size : Int) := by omega
    go_enter Tryd.func9, Tryd.ntmps9
    go_wp2_with fail
    refine (haw.out _ hS0.out).mono ?_
    rintro e w2 ⟨rfl, hS2⟩
    go_wp2
    go_ret
    exact ⟨rfl, hS2.1⟩
theorem runesP_nil (s : ByteArray) (h : runesL s.data.toList = none) : runesP s = ([], 19) := by unfold runesP; rw [h]
theorem runesP_list (s : ByteArray) (l : List Nat) (h : runesL s.data.toList = some l) : runesP s = (l.map Int.ofNat, 0) := by unfold runesP; rw [h]
theorem text_back (s : ByteArray) (l : List Nat) (h : runesL s.data.toList = some l) : (⟨(textL l).toArray⟩ : ByteArray) = s := by
  rw [← ((runesL_iff _ _).1 h).2]
theorem st_text (w : World) (m : Int) (s : ByteArray) (l : List Nat) (hs : s.size ≤ 100000) (h : runesL s.data.toList = some l) (L : List Int) (hL : L = l.map Int.ofNat) (A : Option Addr) (c : Nat) (hc : L.length ≤ c) (v : World) (hC : Kd.C (Kd.int .i32) v A L.length L) (hv : St w m v) :
    Calls Tryd.prog 67 #[.slice A L.length c] v fun e w' => e = .returned (.string s) ∧ St w m w' := by
  subst hL
  have hll := runes_len s l h
  have ht := refText_f l ((runesL_iff _ _).1 h).1 (by omega) 300000 (by omega)
  rw [text_back s l h] at ht
  exact (Fn.rollbookref13_Text.calls 300000 A c (l.map Int.ofNat) s v hC hc ht).mono fun _ _ ⟨h1, h2⟩ => ⟨h1, hv.next h2⟩
set_option maxHeartbeats 4000000 in
set_option maxRecDepth 100000 in
theorem prepRunes_walk (s : ByteArray) (m : Int) (w : World) (hm : w.cell? ⟨1, 0, none⟩ = some (.int .i64 m)) : Calls Tryd.prog 18 #[.string s] w fun e w' => e = .returned (.bool true) ∧ Below w.heap.size w w' := by
  have hS0 := Lib.hid (St.start hm)
  have haw := Lib.hid (st_awake w m)
  clear hm
  by_cases hs : s.size ≤ 3000
  · have c1 := Lib.hid (st_runes w m s (by omega))
    have c2 := Lib.hid (st_refRunes w m s (by omega))
    cases hr : runesL s.data.toList with
    | none =>
      rw [runesP_nil s hr] at c1 c2
      clear hr
      go_enter Tryd.func18, Tryd.ntmps18
      go_wp2_with fail
      refine (haw.out _ hS0.out).mono ?_
      rintro e w2 ⟨rfl, hS2⟩
      have hS2' := Lib.hid hS2
      clear hS2
      go_wp2_with fail
      refine (c1.out _ hS2'.out).mono ?_
      rintro e w3 ⟨x3, rfl, hR3, hS3, -⟩
      obtain ⟨A, c, rfl⟩ := Kd.R_slice hR3
      have hS3' := Lib.hid hS3
      clear hS3 hR3
      go_wp2_with fail
      refine (c2.out _ hS3'.out).mono ?_
      rintro e w4 ⟨x4, rfl, hR4, hS4, -⟩
      obtain ⟨A2, c', rfl⟩ := Kd.R_slice hR4
      have hS4' := Lib.hid hS4
      clear hS4 hR4
      go_wp2
      go_ret
      exact ⟨rfl, hS4'.out.1⟩
    | some l =>
      rw [runesP_list s l hr] at c1 c2
      have hll := runes_len s l hr
      obtain ⟨L, hL⟩ : ∃ L, L = l.map Int.ofNat := ⟨_, rfl⟩
      have htx := Lib.hid (st_text w m s l (by omega) hr L hL)
      rw [← hL] at c1 c2
      have hLn : L.length ≤ 100000 := by rw [hL, List.length_map]; omega
      clear hr hL hll
      go_enter Tryd.func18, Tryd.ntmps18
      go_wp2_with fail
      refine (haw.out _ hS0.out).mono ?_
      rintro e w2 ⟨rfl, hS2⟩
      have hS2' := Lib.hid hS2
      clear hS2
      go_wp2_with fail
      refine (c1.out _ hS2'.out).mono ?_
      rintro e w3 ⟨x3, rfl, hR3, hS3, -⟩
      obtain ⟨A, c, rfl, hc1, hC1⟩ := Kd.R_reads hR3
      have hS3' := Lib.hid hS3
      have hC1' := Lib.hid hC1
      clear hS3 hR3 hC1
      go_wp2_with fail
      refine (c2.out _ hS3'.out).mono ?_
      rintro e w4 ⟨x4, rfl, hR4, hS4, hb4⟩
      obtain ⟨A2, c', rfl, hc2, hC2⟩ := Kd.R_reads hR4
      have hS4' := Lib.hid hS4
      have hD1 := Lib.hid (Kd.C_below hC1'.out hb4)
      have hD2 := Lib.hid hC2
      obtain ⟨n, hn⟩ : ∃ n, n = L.length := ⟨_, rfl⟩
      have htx2 := fun v hC hv => htx.out A c hc1 v hC hv
      rw [← hn] at hD1 hD2 hc1 hc2 hLn htx2 ⊢
      have htx3 := Lib.hid htx2
      clear hS4 hR4 hC2 hb4 hC1' hn htx2 htx
      go_wp2_with fail
      go_loopw [7] (fun i wr => ∃ k : Nat, k ≤ n ∧ i = .int .i64 k ∧ Hid (Below w4.heap.size w4 wr)) (fun i _ => n - (intOf i).toNat)
      case atStart => exact ⟨0, by omega, rfl, Below.refl _ _⟩
      case round =>
        obtain ⟨k, hk, rfl, hbr⟩ := hrel
        by_cases hlt : k < n
        · obtain ⟨ad, rfl, hcell1⟩ := Kd.at_int (Kd.C_below hD1.out hbr.out) (k : Int) (by omega) (by omega)
          obtain ⟨ad2, rfl, hcell2⟩ := Kd.at_int (Kd.C_below hD2.out hbr.out) (k : Int) (by omega) (by omega)
          rw [Int.toNat_natCast] at hcell1 hcell2
          obtain ⟨r, hr⟩ : ∃ r, r = rd L (k : Int) := ⟨_, rfl⟩
          rw [← hr] at hcell1 hcell2
          clear hr
          go_wp2_with fail
          go_quiet (fail)
          go_wp2_with fail
          go_roundw
          case rel => exact ⟨k + 1, by omega, by go_num, (pw_below_drewN hbr.out _)⟩
          case measure => simp [intOf]; omega
        · have hE1 := Lib.hid (Kd.C_below hD1.out hbr.out)
          have hSr := Lib.hid (hS4'.out.next hbr.out)
          have hcall := Lib.hid (htx3.out wr hE1.out hSr.out)
          go_wp2_with fail
          refine hcall.out.mono ?_
          rintro e w6 ⟨rfl, hS6⟩
          have hS6' := Lib.hid hS6
          clear hS6
          go_wp2
          go_ret
          exact ⟨by simp, hS6'.out.1⟩
  · have hs2 : (3000 : Int) < (s.size : Int) := by omega
    go_enter Tryd.func18, Tryd.ntmps18
    go_wp2_with fail
    refine (haw.out _ hS0.out).mono ?_
    rintro e w2 ⟨rfl, hS2⟩
    go_wp2
    go_ret
    exact ⟨rfl, hS2.1⟩
end Go.Proofs.YtcoddeemfdnjpaaDoor.PrepPlain
