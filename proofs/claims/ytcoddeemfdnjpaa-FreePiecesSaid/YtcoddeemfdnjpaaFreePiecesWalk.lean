/- The walk of FreePieces. -/
import Derived.Test.YtcoddeemfdnjpaaFreeReadsWalk
set_option linter.unusedVariables false
namespace Go.Proofs.Ytcoddeemfdnjpaa.Free
open Go.RowKit Go.Lib CrcPlain NumPlain FieldPlain PagePlain
open Go.Proofs.Ytcoddeemfdnjpaa.Fn
open Go.Proofs.YtcoddeemfdnjpaaW.PrintWords hiding nums nums_length nums_append
theorem refEnc_any (next : Int) (A : Option Addr) (c : Nat) (l : List S28) (w : World) (hC : Kd.C k28 w A l.length l) (hc : l.length ≤ c) :
    Calls Try.prog 27 #[.int .i64 next, .slice A l.length c] w fun e w' => e = .returned (.tuple #[.string (encP next l).1, .int .i64 (encP next l).2]) ∧ Below w.heap.size w w' :=
  rollbookref08_Encode.calls 20000 next A c l (encP next l).1 (encP next l).2 w hC hc (refEnc_f next l 20000 (Nat.le_refl _))
set_option maxHeartbeats 1600000 in
set_option maxRecDepth 100000 in
theorem pieces_walk (w : World) (next : Int) (_hb : -9223372036854775808 ≤ next ∧ next ≤ 9223372036854775807) (A : Option Addr) (c : Nat) (l : List S28) (hc : l.length ≤ c) (hC : Kd.C k28 w A l.length l) :
    Calls Try.prog 8 #[.int .i64 next, .slice A l.length c] w fun e w' => e = .returned (.bool true) ∧ Below w.heap.size w w' := by
  have ha := Lib.hid (awake_any w)
  have hE := Lib.hid (fun (u : World) (hu : Below w.heap.size w u) => enc_any next A c l u (Kd.C_below hC hu))
  have hF := Lib.hid (fun (u : World) (hu : Below w.heap.size w u) => refEnc_any next A c l u (Kd.C_below hC hu) hc)
  have hCw := Lib.hid (fun (u : World) (hu : Below w.heap.size w u) => Kd.C_below hC hu)
  obtain ⟨n, hn⟩ : ∃ n, n = l.length := ⟨_, rfl⟩
  have hn' := Lib.hid hn
  by_cases hbig : 100 < n
  · have q : (100 : Int) < (n : Int) := by omega
    rw [← hn]
    clear hC hE hF hCw hn
    go_enter Try.func8, Try.ntmps8
    go_wp2_with fail
    refine ha.out.mono ?_
    rintro e w2 ⟨rfl, hb2⟩
    have B2 := Lib.hid hb2
    clear hb2
    go_wp2
    go_ret
    exact ⟨rfl, B2.out⟩
  · have q : ¬ ((100 : Int) < (n : Int)) := by omega
    by_cases hM : mayB next l = true
    · have e1 : encP next l = (pieceB next l, 0) := by unfold encP; rw [if_pos hM]
      rw [e1] at hE hF
      have hsz := pieceB_size next l
      have hl40 := (mayB_len hM).2.2.1
      have hD := Lib.hid (fun u => dec_any (pieceB next l) u (by omega))
      unfold DecSt at hD
      rw [dec_enc hM] at hD
      have hS := Lib.hid (fun (B : Option Addr) (d : Nat) (u : World) (hd : l.length ≤ d) (hA : Kd.C k28 u B l.length l) (hB : Kd.C k28 u A l.length l) => same_any B A d c l u (by omega) hd hc hA hB)
      obtain ⟨P, hP⟩ : ∃ P, P = pieceB next l := ⟨_, rfl⟩
      rw [← hP] at hE hF hsz hD
      have hsz2 : (P.size : Int) ≤ 488 := by omega
      rw [← hn] at hE hF hD hS hCw ⊢
      clear e1 hM hC hP hsz hl40 hn hbig
      go_enter Try.func8, Try.ntmps8
      go_wp2_with fail
      refine ha.out.mono ?_
      rintro e w2 ⟨rfl, hb2⟩
      have B2 := Lib.hid hb2
      clear hb2
      go_wp2_with fail
      refine (hE.out _ B2.out).mono ?_
      rintro e w3 ⟨rfl, hb3⟩
      have B3 := Lib.hid (B2.out.trans (hb3.mono B2.out.size))
      clear hb3
      go_wp2_with fail
      refine (hF.out _ B3.out).mono ?_
      rintro e w4 ⟨rfl, hb4⟩
      have B4 := Lib.hid (B3.out.trans (hb4.mono B3.out.size))
      clear hb4
      go_wp2_with fail
      refine (hD.out _).mono ?_
      rintro e w5 ⟨B, d, rfl, hd, hDC, hb5⟩
      have B5 := Lib.hid (B4.out.trans (hb5.mono B4.out.size))
      have hS2 := Lib.hid (hS.out B d w5 hd hDC (hCw.out _ B5.out))
      clear hb5 hd hDC
      go_wp2_with fail
      refine hS2.out.mono ?_
      rintro e w6 ⟨rfl, hb6⟩
      have B6 := Lib.hid (B5.out.trans (hb6.mono B5.out.size))
      clear hb6
      go_wp2
      go_ret
      exact ⟨rfl, B6.out⟩
    · have e1 : encP next l = (⟨#[]⟩, 4) := by unfold encP; rw [if_neg hM]
      rw [e1] at hE hF
      rw [← hn] at hE hF ⊢
      clear e1 hM hC hn hbig hCw
      go_enter Try.func8, Try.ntmps8
      go_wp2_with fail
      refine ha.out.mono ?_
      rintro e w2 ⟨rfl, hb2⟩
      have B2 := Lib.hid hb2
      clear hb2
      go_wp2_with fail
      refine (hE.out _ B2.out).mono ?_
      rintro e w3 ⟨rfl, hb3⟩
      have B3 := Lib.hid (B2.out.trans (hb3.mono B2.out.size))
      clear hb3
      go_wp2_with fail
      refine (hF.out _ B3.out).mono ?_
      rintro e w4 ⟨rfl, hb4⟩
      have B4 := Lib.hid (B3.out.trans (hb4.mono B3.out.size))
      clear hb4
      go_wp2
      go_ret
      exact ⟨rfl, B4.out⟩
#print axioms pieces_walk
end Go.Proofs.Ytcoddeemfdnjpaa.Free
