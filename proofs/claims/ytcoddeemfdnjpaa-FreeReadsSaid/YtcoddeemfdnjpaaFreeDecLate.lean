/- The walk of free.Encode. -/
import Derived.Test.YtcoddeemfdnjpaaFreeDecPlain
import Derived.Test.YtcoddeemfdnjpaaFreeMay
namespace Go.Proofs.Ytcoddeemfdnjpaa.Free
open Go.RowKit Go.Lib CrcPlain NumPlain FieldPlain PagePlain
open Go.Proofs.Ytcoddeemfdnjpaa.Fn
open Go.Proofs.YtcoddeemfdnjpaaW.PrintWords hiding nums nums_length nums_append
theorem put_num (s : ByteArray) (n z : Nat) (w : World) (h1 : 1 ≤ z) (h8 : z ≤ 8) (hn : n < 256 ^ z) (hn2 : n < 18446744073709551616) (hs : s.size + 8 ≤ 9223372036854775807) :
    Calls Try.prog 38 #[.string s, .int .u64 (n : Int), .int .i64 (z : Int)] w fun e w' => e = .returned (.tuple #[.string (s ++ numB z n), .int .i64 0]) ∧ Below w.heap.size w w' := by
  have h := put_any s n (z : Int) w hn2 hs
  have e : putF s n (z : Int) = (s ++ numB z n, 0) := by
    unfold putF
    rw [Int.toNat_natCast, if_neg (by omega)]
    rfl
  rw [e] at h
  exact h
theorem u64_id (n : Nat) (h : n < 18446744073709551616) : IntKind.u64.wrap (n : Int) = n := by
  show ((n : Nat) : Int) % 18446744073709551616 = _
  omega
set_option maxHeartbeats 1600000 in
set_option maxRecDepth 100000 in
theorem enc_bad (next : Int) (A : Option Addr) (c : Nat) (l : List S28) (w : World) (hC : Kd.C k28 w A l.length l) (hM : mayB next l = false) :
    Calls Try.prog 26 #[.int .i64 next, .slice A l.length c] w fun e w' => e = .returned (.tuple #[.string ⟨#[]⟩, .int .i64 4]) ∧ Below w.heap.size w w' := by
  have hm := Lib.hid (may_any next A c l w hC)
  rw [hM] at hm
  clear hC hM
  go_enter Try.func26, Try.ntmps26
  go_wp2_with fail
  refine hm.out.mono ?_
  rintro e w2 ⟨rfl, hb⟩
  have hb' := Lib.hid hb
  clear hb
  go_wp2
  go_ret2
  exact ⟨rfl, hb'.out⟩
set_option maxHeartbeats 1600000 in
set_option maxRecDepth 100000 in
theorem enc_ok (N : Nat) (A : Option Addr) (c : Nat) (l : List S28) (w : World) (hC : Kd.C k28 w A l.length l) (hM : mayB (N : Int) l = true) :
    Calls Try.prog 26 #[.int .i64 (N : Int), .slice A l.length c] w fun e w' => e = .returned (.tuple #[.string (pieceB (N : Int) l), .int .i64 0]) ∧ Below w.heap.size w w' := by
  have hm := Lib.hid (may_any (N : Int) A c l w hC)
  rw [hM] at hm
  obtain ⟨h0, h1, hl, hO⟩ := mayB_len hM
  have hN : N < 512 := by omega
  have hfr := Lib.hid (frees_of hC)
  obtain ⟨n, hn⟩ : ∃ n, n = l.length := ⟨_, rfl⟩
  have hn' := Lib.hid hn
  have hO' := Lib.hid hO
  rw [← hn] at hl hm
  have p4 : N < 256 ^ 4 := Nat.lt_trans hN (by decide)
  have p2 : n < 256 ^ 2 := Nat.lt_of_le_of_lt hl (by decide)
  have p5 : N < 18446744073709551616 := Nat.lt_trans hN (by decide)
  have p6 : n < 18446744073709551616 := Nat.lt_of_le_of_lt hl (by decide)
  have hp1 : Hid (∀ w, Calls Try.prog 38 #[.string ⟨#[]⟩, .int .u64 (N : Int), .int .i64 4] w fun e w' => e = .returned (.tuple #[.string ((⟨#[]⟩ : ByteArray) ++ numB 4 N), .int .i64 0]) ∧ Below w.heap.size w w') := fun w => put_num ⟨#[]⟩ N 4 w (by decide) (by decide) p4 p5 (by decide)
  obtain ⟨s1, hs1⟩ : ∃ s1, s1 = (⟨#[]⟩ : ByteArray) ++ numB 4 N := ⟨_, rfl⟩
  rw [← hs1] at hp1
  have z1 : s1.size = 4 := by rw [hs1, empty_append, numB_size]
  have z1' : s1.size + 8 ≤ 9223372036854775807 := by rw [z1]; decide
  have hp2 : Hid (∀ w, Calls Try.prog 38 #[.string s1, .int .u64 (n : Int), .int .i64 2] w fun e w' => e = .returned (.tuple #[.string (s1 ++ numB 2 n), .int .i64 0]) ∧ Below w.heap.size w w') := fun w => put_num s1 n 2 w (by decide) (by decide) p2 p6 z1'
  obtain ⟨s2, hs2⟩ : ∃ s2, s2 = s1 ++ numB 2 n := ⟨_, rfl⟩
  rw [← hs2] at hp2
  have hs2' : Hid (s2 = numB 4 N ++ numB 2 n) := by show _ = _; rw [hs2, hs1, empty_append]
  have z2' : Hid (s2.size = 6) := by show _ = _; rw [hs2, ByteArray.size_append, z1, numB_size]
  have eN := u64_id N p5
  have en := u64_id n p6
  rw [← hn]
  clear hC hM hs1 hs2 hO h0 h1 hn z1 z1' p4 p2 p5 p6
  obtain ⟨R, hR⟩ : ∃ R, R = pieceB (N : Int) l := ⟨_, rfl⟩
  have hR' := Lib.hid hR
  rw [← hR]
  clear hR
  go_enter Try.func26, Try.ntmps26
  go_wp2_with fail
  refine hm.out.mono ?_
  rintro e w2 ⟨rfl, hb2⟩
  have B2 := Lib.hid hb2
  clear hb2
  go_wp2_with fail
  refine (hp1.out _).mono ?_
  rintro e w3 ⟨rfl, hb3⟩
  have B3 := Lib.hid (B2.out.trans (hb3.mono B2.out.size))
  clear hb3
  go_wp2_with fail
  refine (hp2.out _).mono ?_
  rintro e w4 ⟨rfl, hb4⟩
  have B4 := Lib.hid (B3.out.trans (hb4.mono B3.out.size))
  clear hb4 hp1 hp2 eN en hm B2 B3
  go_wp2_with fail
  go_loopw [30, 6] (fun i v wr => ∃ (k : Nat) (sv : ByteArray), k ≤ n ∧ i = .int .i64 k ∧ v = .string sv ∧ Hid (sv = s2 ++ pagesB (l.take k)) ∧ Hid (Below w.heap.size w wr)) (fun i _ _ => n - (RowKit.intOf i).toNat)
  case atStart => exact ⟨0, s2, by omega, rfl, rfl, by show s2 = s2 ++ (⟨#[]⟩ : ByteArray); rw [append_empty], B4.out⟩
  case round =>
    obtain ⟨k, sv, hk, rfl, rfl, hsv, hB⟩ := hrel
    by_cases hlt : k < n
    · have hkl : k < l.length := by rw [← hn'.out]; exact hlt
      obtain ⟨g, off, rfl, hfa⟩ := hfr.out.resolve_left (fun e => by rw [e] at hkl; simp at hkl)
      obtain ⟨a0, a1⟩ := (hfa.below hB.out) k hkl
      have hrx := okl_right hO'.out hkl
      obtain ⟨x, hx⟩ : ∃ x, x = l.getD k zS := ⟨_, rfl⟩
      rw [← hx] at a0 a1 hrx
      unfold right at hrx
      obtain ⟨X, hX⟩ : ∃ X : Nat, x.f0 = (X : Int) := ⟨x.f0.toNat, by omega⟩
      obtain ⟨Y, hY⟩ : ∃ Y : Nat, x.f1 = (Y : Int) := ⟨x.f1.toNat, by omega⟩
      rw [hX] at a0
      rw [hY] at a1
      have hXl : X < 1099511627777 := by omega
      have hYl : Y < 512 := by omega
      have x1 : X < 256 ^ 8 := Nat.lt_trans hXl (by decide)
      have x2 : X < 18446744073709551616 := Nat.lt_trans hXl (by decide)
      have y1 : Y < 256 ^ 4 := Nat.lt_trans hYl (by decide)
      have y2 : Y < 18446744073709551616 := Nat.lt_trans hYl (by decide)
      have hone : oneB x = numB 8 X ++ numB 4 Y := by unfold oneB; rw [hX, hY]; rfl
      have hsz : sv.size = 6 + 12 * k := by rw [hsv.out, ByteArray.size_append, z2'.out, pagesB_size, List.length_take, Nat.min_eq_left (by omega)]
      have hz1 : sv.size + 8 ≤ 9223372036854775807 := by omega
      have hq1 : Hid (∀ w, Calls Try.prog 38 #[.string sv, .int .u64 (X : Int), .int .i64 8] w fun e w' => e = .returned (.tuple #[.string (sv ++ numB 8 X), .int .i64 0]) ∧ Below w.heap.size w w') := fun w => put_num sv X 8 w (by decide) (by decide) x1 x2 hz1
      obtain ⟨s3, hs3⟩ : ∃ s3, s3 = sv ++ numB 8 X := ⟨_, rfl⟩
      rw [← hs3] at hq1
      have hz2 : s3.size + 8 ≤ 9223372036854775807 := by rw [hs3, ByteArray.size_append, numB_size]; omega
      have hq2 : Hid (∀ w, Calls Try.prog 38 #[.string s3, .int .u64 (Y : Int), .int .i64 4] w fun e w' => e = .returned (.tuple #[.string (s3 ++ numB 4 Y), .int .i64 0]) ∧ Below w.heap.size w w') := fun w => put_num s3 Y 4 w (by decide) (by decide) y1 y2 hz2
      obtain ⟨s4, hs4⟩ : ∃ s4, s4 = s3 ++ numB 4 Y := ⟨_, rfl⟩
      rw [← hs4] at hq2
      have hs4' : Hid (s4 = s2 ++ pagesB (l.take (k + 1))) := by
        show _ = _
        rw [hs4, hs3, hsv.out, take_succ l k hkl, pagesB_snoc, ← hx, hone]
        simp only [append_assocB]
      have eX := u64_id X x2
      have eY := u64_id Y y2
      have q0 : (0 : Int) ≤ (k : Int) := by omega
      have q1 : (k : Int) < (n : Int) := by omega
      clear hx hrx hX hY hXl hYl x1 x2 y1 y2 hone hsz hz1 hs3 hz2 hs4 hkl hfa
      obtain ⟨cb, hcb⟩ : ∃ cb, cb = wr.heap.size := ⟨_, rfl⟩
      obtain ⟨w5, hw5⟩ : ∃ w5, w5 = wr.alloc (.cells #[.int .i64 (X : Int), .int .i64 (Y : Int)] 28) := ⟨_, rfl⟩
      have t0 := Lib.hid (show w5.cell? ⟨cb, 0, none⟩ = some (.int .i64 (X : Int)) by rw [hw5, hcb, World.cell?_alloc_at _ _ _ _ rfl]; rfl)
      have t1 := Lib.hid (show w5.cell? ⟨cb, 1, none⟩ = some (.int .i64 (Y : Int)) by rw [hw5, hcb, World.cell?_alloc_at _ _ _ _ rfl]; rfl)
      have z5 : cb < w5.heap.size := by rw [hw5, hcb]; simp
      have B5 := Lib.hid (show Below w.heap.size w w5 by rw [hw5]; exact hB.out.alloc hB.out.size _)
      have hw5' := Lib.hid hw5
      have hcb' := Lib.hid hcb
      clear hw5 hcb
      go_wp2_with fail
      rw [← hw5'.out, ← hcb'.out]
      clear a0 a1 hw5' hcb'
      have t0x := t0.out
      go_wp2_with fail
      refine (hq1.out _).mono ?_
      rintro e w6 ⟨rfl, hb6⟩
      have t1x : w6.cell? ⟨cb, 1, none⟩ = some (.int .i64 (Y : Int)) := by rw [hb6.cell (p := ⟨cb, 1, none⟩) z5]; exact t1.out
      have B6 := Lib.hid (B5.out.trans (hb6.mono B5.out.size))
      clear t0x hb6
      go_wp2_with fail
      refine (hq2.out _).mono ?_
      rintro e w7 ⟨rfl, hb7⟩
      have B7 := Lib.hid (B6.out.trans (hb7.mono B6.out.size))
      clear t1x hb7
      go_wp2
      go_roundw
      case rel => exact ⟨k + 1, s4, by omega, by go_num, rfl, hs4'.out, B7.out⟩
      case measure => simp [RowKit.intOf]; omega
    · have ek : k = n := by omega
      have hR2 : R = sv := by
        rw [hR'.out, hsv.out, ek, hn'.out, List.take_length, hs2'.out]
        unfold pieceB
        rw [Int.toNat_natCast, hn'.out]
      have q1 : ¬ ((k : Int) < (n : Int)) := by omega
      have hR3 := Lib.hid hR2
      clear ek hR2
      go_wp2
      go_ret2
      exact ⟨by rw [hR3.out]; rfl, hB.out⟩
theorem enc_any (next : Int) (A : Option Addr) (c : Nat) (l : List S28) (w : World) (hC : Kd.C k28 w A l.length l) :
    Calls Try.prog 26 #[.int .i64 next, .slice A l.length c] w fun e w' => e = .returned (.tuple #[.string (encP next l).1, .int .i64 (encP next l).2]) ∧ Below w.heap.size w w' := by
  unfold encP
  by_cases hM : mayB next l = true
  · rw [if_pos hM]
    obtain ⟨N, rfl⟩ := Int.eq_ofNat_of_zero_le (mayB_len hM).1
    exact enc_ok N A c l w hC hM
  · rw [if_neg hM]
    exact enc_bad next A c l w hC (by simpa using hM)
#print axioms enc_any
end Go.Proofs.Ytcoddeemfdnjpaa.Free

namespace Go.Proofs.Ytcoddeemfdnjpaa.Free
open Go.RowKit Go.Lib CrcPlain NumPlain FieldPlain PagePlain
open Go.Proofs.Ytcoddeemfdnjpaa.Fn Go.Proofs.YtcoddeemfdnjpaaW.PrintLast Go.Proofs.YtcoddeemfdnjpaaW.PrintMore
open Go.Proofs.YtcoddeemfdnjpaaW.PrintWords hiding nums nums_length nums_append
attribute [local go_sem] max2_int min2_int max_two min_two
/-- what a call of Decode leaves -/
def DecSt (s : ByteArray) (w : World) (e : Ending) (w' : World) : Prop :=
  ∃ A c, e = .returned (.tuple #[.int .i64 (decP s).1, .slice A (decP s).2.1.length c, .int .i64 (decP s).2.2]) ∧ (decP s).2.1.length ≤ c ∧ Kd.C k28 w' A (decP s).2.1.length (decP s).2.1 ∧ Below w.heap.size w w'
theorem nil_C (w : World) : Kd.C k28 w none ([] : List S28).length [] := ⟨rfl, by decide, fun h => absurd h (by decide)⟩
theorem take_at (s : ByteArray) (a z : Nat) (w : World) (h1 : 1 ≤ z) (h8 : z ≤ 8) (h : a + z ≤ s.size) (hs : s.size ≤ 140737488351232) :
    Calls Try.prog 35 #[.string s, .int .i64 (a : Int), .int .i64 (z : Int)] w fun e w' => e = .returned (.tuple #[.int .u64 (takeN s a z : Nat), .int .i64 0]) ∧ Below w.heap.size w w' := by
  have := Ytcoddeemfdnjpaa.take_any s a z w hs
  rw [takeF_at s a z h1 h8 h] at this
  exact this
set_option maxHeartbeats 1600000 in
set_option maxRecDepth 100000 in
theorem dec_early (s : ByteArray) (w : World) (hs : s.size ≤ 2000) (h : s.size < 6 ∨ 40 < takeN s 4 2 ∨ s.size ≠ 6 + 12 * takeN s 4 2) : Calls Try.prog 24 #[.string s] w (DecSt s w) := by
  have e0 : decP s = (0, [], 4) := decP_bad s (fun hh => by
    rcases h with h | h | h
    · omega
    · omega
    · exact h hh.2.2.1)
  have fin := Lib.hid (fun (w' : World) (hb : Below w.heap.size w w') => (by
    show DecSt s w _ w'
    refine ⟨none, 0, ?_, ?_, ?_, hb⟩
    · rw [e0]; rfl
    · rw [e0]; exact Nat.le_refl _
    · rw [e0]; exact nil_C w' : DecSt s w (.returned (.tuple #[.int .i64 0, .slice none 0 0, .int .i64 4])) w'))
  have ht1 := Lib.hid (fun u => Ytcoddeemfdnjpaa.take_any s 0 4 u (by omega))
  have ht2 := Lib.hid (fun u => Ytcoddeemfdnjpaa.take_any s 4 2 u (by omega))
  obtain ⟨T1, hT1⟩ : ∃ T1, T1 = takeF s 0 4 := ⟨_, rfl⟩
  rw [← hT1] at ht1
  clear hT1 e0
  by_cases c6 : s.size < 6
  · have e : takeF s 4 2 = (0, 3) := takeF_short s 4 2 (by decide) (by decide) (by omega)
    rw [e] at ht2
    clear e h
    go_enter Try.func24, Try.ntmps24
    go_wp2_with fail
    refine (ht1.out _).mono ?_
    rintro e w2 ⟨rfl, hb2⟩
    have B2 := Lib.hid hb2
    clear hb2
    go_wp2_with fail
    refine (ht2.out _).mono ?_
    rintro e w3 ⟨rfl, hb3⟩
    have B3 := Lib.hid (B2.out.trans (hb3.mono B2.out.size))
    clear hb3
    go_wp2
    go_ret3
    exact fin.out _ B3.out
  · have e : takeF s 4 2 = (takeN s 4 2, 0) := takeF_at s 4 2 (by decide) (by decide) (by omega)
    rw [e] at ht2
    have hb := takeN_lt s 4 2 (by omega)
    have h4 : (256 : Nat) ^ 2 = 65536 := by decide
    rw [h4] at hb
    obtain ⟨n, hn⟩ : ∃ n, n = takeN s 4 2 := ⟨_, rfl⟩
    rw [← hn] at ht2 h hb
    obtain ⟨z, hz⟩ : ∃ z, z = s.size := ⟨_, rfl⟩
    rw [← hz] at h hs
    have hz' := Lib.hid hz
    have w1 : IntKind.i64.wrap (n : Int) = n := by rw [IntKind.wrap_i64]; omega
    have w2 : IntKind.i64.wrap (12 * (n : Int)) = 12 * (n : Int) := by rw [IntKind.wrap_i64]; omega
    have w3 : IntKind.i64.wrap (6 + 12 * (n : Int)) = 6 + 12 * (n : Int) := by rw [IntKind.wrap_i64]; omega
    have hsz : s.size = z := hz.symm
    clear e h4 hn hz
    by_cases c40 : 40 < n
    · have d1 : (40 : Int) < (n : Int) := by omega
      clear h
      go_enter Try.func24, Try.ntmps24
      go_wp2_with fail
      refine (ht1.out _).mono ?_
      rintro e w2 ⟨rfl, hb2⟩
      have B2 := Lib.hid hb2
      clear hb2
      go_wp2_with fail
      refine (ht2.out _).mono ?_
      rintro e w3 ⟨rfl, hb3⟩
      have B3 := Lib.hid (B2.out.trans (hb3.mono B2.out.size))
      clear hb3
      go_wp2
      go_ret3
      exact fin.out _ B3.out
    · have d1 : ¬ ((40 : Int) < (n : Int)) := by omega
      have d2 : ((z : Int) == 6 + 12 * (n : Int)) = false := by
        apply beq_false_of_ne
        omega
      have d3 : ((z : Int) != 6 + 12 * (n : Int)) = true := by
        apply bne_iff_ne.2
        omega
      have d4 : ¬ ((z : Int) = 6 + 12 * (n : Int)) := by omega
      clear h
      go_enter Try.func24, Try.ntmps24
      go_wp2_with fail
      refine (ht1.out _).mono ?_
      rintro e w2 ⟨rfl, hb2⟩
      have B2 := Lib.hid hb2
      clear hb2
      go_wp2_with fail
      refine (ht2.out _).mono ?_
      rintro e w3 ⟨rfl, hb3⟩
      have B3 := Lib.hid (B2.out.trans (hb3.mono B2.out.size))
      clear hb3
      go_wp2
      go_ret3
      exact fin.out _ B3.out
end Go.Proofs.Ytcoddeemfdnjpaa.Free

namespace Go.Proofs.Ytcoddeemfdnjpaa.Free
open Go.RowKit Go.Lib CrcPlain NumPlain FieldPlain PagePlain
open Go.Proofs.Ytcoddeemfdnjpaa.Fn Go.Proofs.YtcoddeemfdnjpaaW.PrintLast Go.Proofs.YtcoddeemfdnjpaaW.PrintMore
open Go.Proofs.YtcoddeemfdnjpaaW.PrintWords hiding nums nums_length nums_append
attribute [local go_sem] max2_int min2_int max_two min_two
set_option maxHeartbeats 1600000 in
set_option maxRecDepth 100000 in
theorem dec_late (s : ByteArray) (w : World) (n : Nat) (hn : takeN s 4 2 = n) (h40 : n ≤ 40) (hs : s.size = 6 + 12 * n) : Calls Try.prog 24 #[.string s] w (DecSt s w) := by
  have hdec : Hid (decP s = if mayB (takeN s 0 4 : Nat) (getM s n) = true then (((takeN s 0 4 : Nat) : Int), getM s n, (0 : Int)) else (0, [], 4)) := by
    show _ = _
    unfold decP
    rw [hn]
    by_cases hM : mayB (takeN s 0 4 : Nat) (getM s n) = true
    · rw [if_pos hM, if_pos ⟨by omega, h40, hs, hM⟩]
    · rw [if_neg hM, if_neg (fun h => hM h.2.2.2)]
  have ht1 := Lib.hid (fun u => take_at s 0 4 u (by decide) (by decide) (by omega) (by omega))
  have ht2 := Lib.hid (fun u => take_at s 4 2 u (by decide) (by decide) (by omega) (by omega))
  rw [hn] at ht2
  have hb0 := takeN_lt s 0 4 (by omega)
  have h256 : (256 : Nat) ^ 4 = 4294967296 := by decide
  rw [h256] at hb0
  obtain ⟨N, hN⟩ : ∃ N, N = takeN s 0 4 := ⟨_, rfl⟩
  rw [← hN] at ht1 hb0 hdec
  have hm := Lib.hid (fun (A : Option Addr) (c : Nat) (u : World) (h : Kd.C k28 u A (getM s n).length (getM s n)) => may_any (N : Int) A c (getM s n) u h)
  have htk := Lib.hid (fun (a z : Nat) (u : World) (h1 : 1 ≤ z) (h8 : z ≤ 8) (h : a + z ≤ s.size) => take_at s a z u h1 h8 h (by omega))
  have hlt' := Lib.hid (fun (a : Nat) (h : a + 4 ≤ s.size) => takeN_lt s a 4 h)
  have wn : IntKind.i64.wrap (N : Int) = N := by rw [IntKind.wrap_i64]; omega
  have w1 : IntKind.i64.wrap (n : Int) = n := by rw [IntKind.wrap_i64]; omega
  have w2 : IntKind.i64.wrap (12 * (n : Int)) = 12 * (n : Int) := by rw [IntKind.wrap_i64]; omega
  have w3 : IntKind.i64.wrap (6 + 12 * (n : Int)) = 6 + 12 * (n : Int) := by rw [IntKind.wrap_i64]; omega
  have d1 : ¬ ((40 : Int) < (n : Int)) := by omega
  have hs' := Lib.hid hs
  obtain ⟨z, hz⟩ : ∃ z, z = s.size := ⟨_, rfl⟩
  have hz' := Lib.hid hz
  have hzn : (z : Int) = 6 + 12 * (n : Int) := by omega
  have hsz : s.size = z := hz.symm
  clear hn hs hb0 h256 hN hz
  go_enter Try.func24, Try.ntmps24
  go_wp2_with fail
  refine (ht1.out _).mono ?_
  rintro e w4 ⟨rfl, hb4⟩
  have B4 := Lib.hid hb4
  clear hb4
  go_wp2_with fail
  refine (ht2.out _).mono ?_
  rintro e w5 ⟨rfl, hb5⟩
  have B5 := Lib.hid (B4.out.trans (hb5.mono B4.out.size))
  clear hb5
  go_wp2_with fail
  go_loopw [10, 9] (fun a v wr => ∃ i : Nat, i ≤ n ∧ a = .int .i64 ((6 + 12 * i : Nat) : Int) ∧ Hid (Kd.R k28 28 wr w.heap.size (fun _ => True) v (getM s i) ∧ Below w.heap.size w wr)) (fun a _ _ => 6 + 12 * n - (RowKit.intOf a).toNat)
  case atStart => exact ⟨0, by omega, rfl, Kd.R_nil _ _ _ _ _, B5.out⟩
  case round =>
    obtain ⟨i, hi, rfl, hRB⟩ := hrel
    by_cases hlt : i < n
    · have r1 : 6 + 12 * i + 8 ≤ s.size := by rw [hs'.out]; omega
      have r2 : 6 + 12 * i + 8 + 4 ≤ s.size := by rw [hs'.out]; omega
      have hq1 : Hid (∀ u, Calls Try.prog 35 #[.string s, .int .i64 ((6 + 12 * i : Nat) : Int), .int .i64 8] u fun e w' => e = .returned (.tuple #[.int .u64 (takeN s (6 + 12 * i) 8 : Nat), .int .i64 0]) ∧ Below u.heap.size u w') := fun u => htk.out (6 + 12 * i) 8 u (by decide) (by decide) r1
      have hq2 : Hid (∀ u, Calls Try.prog 35 #[.string s, .int .i64 ((6 + 12 * i + 8 : Nat) : Int), .int .i64 4] u fun e w' => e = .returned (.tuple #[.int .u64 (takeN s (6 + 12 * i + 8) 4 : Nat), .int .i64 0]) ∧ Below u.heap.size u w') := fun u => htk.out (6 + 12 * i + 8) 4 u (by decide) (by decide) r2
      have hYb := hlt'.out (6 + 12 * i + 8) r2
      have h256 : (256 : Nat) ^ 4 = 4294967296 := by decide
      rw [h256] at hYb
      have hsucc := getM_succ s i
      have hlen := Lib.hid (show ((getM s i).length + 1) * 16 ≤ 140737488355328 by rw [getM_length]; omega)
      generalize takeN s (6 + 12 * i) 8 = X at hq1 hsucc
      generalize takeN s (6 + 12 * i + 8) 4 = Y at hq2 hsucc hYb
      obtain ⟨a, ha⟩ : ∃ a : Nat, a = 6 + 12 * i := ⟨_, rfl⟩
      have ea8 : IntKind.i64.wrap ((a : Int) + 8) = ((a + 8 : Nat) : Int) := by rw [IntKind.wrap_i64]; omega
      have ea12 : IntKind.i64.wrap ((a : Int) + 12) = ((6 + 12 * (i + 1) : Nat) : Int) := by rw [IntKind.wrap_i64]; omega
      have qa : (a : Int) < (z : Int) := by omega
      have hmeas : 6 + 12 * n - (6 + 12 * (i + 1)) < 6 + 12 * n - a := by omega
      rw [← ha] at hq1 hq2 ⊢
      have wY : IntKind.i64.wrap (Y : Int) = Y := by rw [IntKind.wrap_i64]; omega
      have hi1 : i + 1 ≤ n := hlt
      have hmeas' := Lib.hid hmeas
      clear r1 r2 h256 hYb ha hlt hzn hmeas
      by_cases hX : 1099511627777 < X
      · have hXI : (1099511627777 : Int) < (X : Int) := by omega
        have hfin := Lib.hid (fun (v1 : Value) (u : World) (h : Kd.R k28 28 u w.heap.size (fun _ => True) v1 (getM s i ++ [⟨(1099511627777 : Int), (Y : Int)⟩])) (hb : Below w.heap.size w u) => (⟨by rw [hsucc, show min (X : Int) 1099511627777 = 1099511627777 by omega]; exact h, hb⟩ : Kd.R k28 28 u w.heap.size (fun _ => True) v1 (getM s (i + 1)) ∧ Below w.heap.size w u))
        clear hX hsucc
        go_wp2_with fail
        refine (hq1.out _).mono ?_
        rintro e w6 ⟨rfl, hb6⟩
        have R6 := Lib.hid (Kd.R_below hRB.out.1 hb6)
        have B6 := Lib.hid (hRB.out.2.trans (hb6.mono hRB.out.2.size))
        clear hb6
        go_wp2_with fail
        refine (hq2.out _).mono ?_
        rintro e w7 ⟨rfl, hb7⟩
        have R7 := Lib.hid (Kd.R_below R6.out hb7)
        have B7 := Lib.hid (B6.out.trans (hb7.mono B6.out.size))
        clear hb7
        go_wp2_with (at_builtin; refine Kd.R_append k28 (w0 := w) w.heap.size rfl (.tmp 59) (.tmp 66) 39 28 (.agg #[(.int .i64 0), (.int .i64 0)]) 16 rfl Try.underlying39 info28 rfl (by decide) (by omega) u9 (getM s i) (⟨(1099511627777 : Int), (Y : Int)⟩ : S28) [.int .i64 (1099511627777 : Int), .int .i64 (Y : Int)] (fun _ => True) (fun _ => False) rfl rfl ?aP (fun _ hk => hk.elim) ?aF ?aO ?aB ?aS ?aL ?_; (case aP => exact k28_mkM _ _ _ (⟨(1099511627777 : Int), (Y : Int)⟩ : S28)); (case aB => exact B7.out); (case aF => exact (fun _ _ => trivial)); (case aO => exact R7.out); (case aS => exact B7.out.size); (case aL => exact hlen.out); intro v8 w8 ho hb hg hat; have hf8 := Lib.hid (hfin.out v8 w8 ho hb); clear ho hb hg hat)
        go_roundw
        case rel => exact ⟨i + 1, hi1, by first | rfl | go_num, hf8.out⟩
        case measure => first | exact hmeas'.out | (have := hmeas'.out; simp [RowKit.intOf] at this ⊢; omega)
      · have hXI : ¬ ((1099511627777 : Int) < (X : Int)) := by omega
        have wX : IntKind.i64.wrap (X : Int) = X := by rw [IntKind.wrap_i64]; omega
        have hfin := Lib.hid (fun (v1 : Value) (u : World) (h : Kd.R k28 28 u w.heap.size (fun _ => True) v1 (getM s i ++ [⟨(X : Int), (Y : Int)⟩])) (hb : Below w.heap.size w u) => (⟨by rw [hsucc, show min (X : Int) 1099511627777 = X by omega]; exact h, hb⟩ : Kd.R k28 28 u w.heap.size (fun _ => True) v1 (getM s (i + 1)) ∧ Below w.heap.size w u))
        clear hX hsucc
        go_wp2_with fail
        refine (hq1.out _).mono ?_
        rintro e w6 ⟨rfl, hb6⟩
        have R6 := Lib.hid (Kd.R_below hRB.out.1 hb6)
        have B6 := Lib.hid (hRB.out.2.trans (hb6.mono hRB.out.2.size))
        clear hb6
        go_wp2_with fail
        refine (hq2.out _).mono ?_
        rintro e w7 ⟨rfl, hb7⟩
        have R7 := Lib.hid (Kd.R_below R6.out hb7)
        have B7 := Lib.hid (B6.out.trans (hb7.mono B6.out.size))
        clear hb7
        go_wp2_with (at_builtin; refine Kd.R_append k28 (w0 := w) w.heap.size rfl (.tmp 59) (.tmp 66) 39 28 (.agg #[(.int .i64 0), (.int .i64 0)]) 16 rfl Try.underlying39 info28 rfl (by decide) (by omega) u9 (getM s i) (⟨(X : Int), (Y : Int)⟩ : S28) [.int .i64 (X : Int), .int .i64 (Y : Int)] (fun _ => True) (fun _ => False) rfl rfl ?aP (fun _ hk => hk.elim) ?aF ?aO ?aB ?aS ?aL ?_; (case aP => exact k28_mkM _ _ _ (⟨(X : Int), (Y : Int)⟩ : S28)); (case aB => exact B7.out); (case aF => exact (fun _ _ => trivial)); (case aO => exact R7.out); (case aS => exact B7.out.size); (case aL => exact hlen.out); intro v8 w8 ho hb hg hat; have hf8 := Lib.hid (hfin.out v8 w8 ho hb); clear ho hb hg hat)
        go_roundw
        case rel => exact ⟨i + 1, hi1, by first | rfl | go_num, hf8.out⟩
        case measure => first | exact hmeas'.out | (have := hmeas'.out; simp [RowKit.intOf] at this ⊢; omega)
    · have ei : i = n := by omega
      subst ei
      have qa : ¬ (((6 + 12 * i : Nat) : Int) < (z : Int)) := by omega
      obtain ⟨A, c, rfl, hlc, hC⟩ := Kd.R_reads hRB.out.1
      have hm2 := Lib.hid (hm.out A c wr hC)
      have hBx := Lib.hid hRB.out.2
      have hCx := Lib.hid hC
      have hlcx := Lib.hid hlc
      clear hRB hC hlc
      by_cases hM : mayB (N : Int) (getM s i) = true
      · rw [if_pos hM] at hdec
        rw [hM] at hm2
        have fin := Lib.hid (fun (w' : World) (hb : Below wr.heap.size wr w') => (by
          show DecSt s w _ w'
          refine ⟨A, c, ?_, ?_, ?_, hBx.out.trans (hb.mono hBx.out.size)⟩
          · rw [hdec.out]
          · rw [hdec.out]; exact hlcx.out
          · rw [hdec.out]; exact Kd.C_below hCx.out hb : DecSt s w (.returned (.tuple #[.int .i64 (N : Int), .slice A (getM s i).length c, .int .i64 0])) w'))
        clear hM
        obtain ⟨m, hmm⟩ : ∃ m, m = (getM s i).length := ⟨_, rfl⟩
        rw [← hmm] at hm2 fin ⊢
        clear hmm
        go_wp2_with fail
        refine hm2.out.mono ?_
        rintro e w6 ⟨rfl, hb6⟩
        have hb6' := Lib.hid hb6
        clear hb6
        go_wp2
        go_ret3
        exact fin.out _ hb6'.out
      · have hM' : mayB (N : Int) (getM s i) = false := by simpa using hM
        rw [if_neg hM] at hdec
        rw [hM'] at hm2
        have fin := Lib.hid (fun (w' : World) (hb : Below wr.heap.size wr w') => (by
          show DecSt s w _ w'
          refine ⟨none, 0, ?_, ?_, ?_, hBx.out.trans (hb.mono hBx.out.size)⟩
          · rw [hdec.out]; rfl
          · rw [hdec.out]; exact Nat.le_refl _
          · rw [hdec.out]; exact nil_C w' : DecSt s w (.returned (.tuple #[.int .i64 0, .slice none 0 0, .int .i64 4])) w'))
        clear hM hM'
        obtain ⟨m, hmm⟩ : ∃ m, m = (getM s i).length := ⟨_, rfl⟩
        rw [← hmm] at hm2 ⊢
        clear hmm
        go_wp2_with fail
        refine hm2.out.mono ?_
        rintro e w6 ⟨rfl, hb6⟩
        have hb6' := Lib.hid hb6
        clear hb6
        go_wp2
        go_ret3
        exact fin.out _ hb6'.out
theorem dec_any (s : ByteArray) (w : World) (hs : s.size ≤ 2000) : Calls Try.prog 24 #[.string s] w (DecSt s w) := by
  by_cases h : s.size < 6 ∨ 40 < takeN s 4 2 ∨ s.size ≠ 6 + 12 * takeN s 4 2
  · exact dec_early s w hs h
  · exact dec_late s w _ rfl (by omega) (by omega)
#print axioms dec_any
end Go.Proofs.Ytcoddeemfdnjpaa.Free
