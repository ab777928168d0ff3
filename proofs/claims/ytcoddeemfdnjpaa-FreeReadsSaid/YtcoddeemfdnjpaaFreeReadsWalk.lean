/- The walk of FreeReads. -/
import Derived.Test.YtcoddeemfdnjpaaFreeDecLate
import Derived.Test.YtcoddeemfdnjpaaFreeAwake
set_option linter.unusedVariables false
namespace Go.Proofs.Ytcoddeemfdnjpaa.Free
open Go.RowKit Go.Lib CrcPlain NumPlain FieldPlain PagePlain
open Go.Proofs.Ytcoddeemfdnjpaa.Fn
open Go.Proofs.YtcoddeemfdnjpaaW.PrintWords hiding nums nums_length nums_append
theorem refDec_any (s : ByteArray) (w : World) (hs : s.size ≤ 2000) :
    Calls Try.prog 25 #[.string s] w fun e w' => ∃ A c, e = .returned (.tuple #[.int .i64 (decP s).1, .slice A (decP s).2.1.length c, .int .i64 (decP s).2.2]) ∧ (decP s).2.1.length ≤ c ∧ Kd.C k28 w' A (decP s).2.1.length (decP s).2.1 ∧ Below w.heap.size w w' :=
  (rollbookref08_Decode.calls 40000 s (decP s).1 (decP s).2.1 (decP s).2.2 w (refDec_f s 40000 (Nat.le_refl _) hs)).mono (fun e w' ⟨v, h1, h2, h3⟩ => by
    obtain ⟨A, c, rfl, hc, hC⟩ := Kd.R_reads h2
    exact ⟨A, c, h1, hc, hC, h3⟩)
theorem decP_len (s : ByteArray) : (decP s).2.1.length ≤ 40 := by
  unfold decP
  split
  · rename_i h; rw [getM_length]; exact h.2.1
  · exact Nat.zero_le _
theorem same_any (A B : Option Addr) (c d : Nat) (l : List S28) (w : World) (hl : l.length < 9223372036854775807) (hc : l.length ≤ c) (hd : l.length ≤ d) (hA : Kd.C k28 w A l.length l) (hB : Kd.C k28 w B l.length l) :
    Calls Try.prog 21 #[.slice A l.length c, .slice B l.length d] w fun e w' => e = .returned (.bool true) ∧ Below w.heap.size w w' :=
  (rollbookref08_Same.calls (l.length + 1) A c l B d l true w hA hc hB hd (same_f l hl)).mono (fun e w' h => ⟨h.1, h.2.below⟩)
set_option maxHeartbeats 1600000 in
set_option maxRecDepth 100000 in
theorem reads_walk (w : World) (s : ByteArray) : Calls Try.prog 7 #[.string s] w fun e w' => e = .returned (.bool true) ∧ Below w.heap.size w w' := by
  have ha := Lib.hid (awake_any w)
  by_cases hbig : 2000 < s.size
  · have q : (2000 : Int) < (s.size : Int) := by omega
    go_enter Try.func7, Try.ntmps7
    go_wp2_with fail
    refine ha.out.mono ?_
    rintro e w2 ⟨rfl, hb2⟩
    have B2 := Lib.hid hb2
    clear hb2
    go_wp2
    go_ret
    exact ⟨rfl, B2.out⟩
  · have q : ¬ ((2000 : Int) < (s.size : Int)) := by omega
    have h1 := Lib.hid (fun u => dec_any s u (by omega))
    have h2 := Lib.hid (fun u => refDec_any s u (by omega))
    have hlen := decP_len s
    unfold DecSt at h1
    obtain ⟨D1, hD1⟩ : ∃ D1, D1 = (decP s).1 := ⟨_, rfl⟩
    obtain ⟨D3, hD3⟩ : ∃ D3, D3 = (decP s).2.2 := ⟨_, rfl⟩
    obtain ⟨L, hL⟩ : ∃ L, L = (decP s).2.1 := ⟨_, rfl⟩
    rw [← hD1, ← hD3, ← hL] at h1 h2
    rw [← hL] at hlen
    have hS := Lib.hid (fun (A B : Option Addr) (c d : Nat) (u : World) (hc : L.length ≤ c) (hd : L.length ≤ d) (hA : Kd.C k28 u A L.length L) (hB : Kd.C k28 u B L.length L) => same_any A B c d L u (by omega) hc hd hA hB)
    clear hD1 hD3 hL hbig
    obtain ⟨n, hn⟩ : ∃ n, n = L.length := ⟨_, rfl⟩
    rw [← hn] at h1 h2 hS
    clear hn hlen
    go_enter Try.func7, Try.ntmps7
    go_wp2_with fail
    refine ha.out.mono ?_
    rintro e w2 ⟨rfl, hb2⟩
    have B2 := Lib.hid hb2
    clear hb2
    go_wp2_with fail
    refine (h1.out _).mono ?_
    rintro e w3 ⟨A, c, rfl, hc, hC, hb3⟩
    have B3 := Lib.hid (B2.out.trans (hb3.mono B2.out.size))
    have hC' := Lib.hid hC
    have hc' := Lib.hid hc
    clear hb3 hC hc
    go_wp2_with fail
    refine (h2.out _).mono ?_
    rintro e w4 ⟨B, d, rfl, hd, hD, hb4⟩
    have B4 := Lib.hid (B3.out.trans (hb4.mono B3.out.size))
    have hS2 := Lib.hid (hS.out A B c d w4 hc'.out hd (Kd.C_below hC'.out hb4) hD)
    clear hb4 hD hd
    go_wp2_with fail
    refine hS2.out.mono ?_
    rintro e w5 ⟨rfl, hb5⟩
    have B5 := Lib.hid (B4.out.trans (hb5.mono B4.out.size))
    clear hb5
    go_wp2
    go_ret
    exact ⟨rfl, B5.out⟩
#print axioms reads_walk
end Go.Proofs.Ytcoddeemfdnjpaa.Free
