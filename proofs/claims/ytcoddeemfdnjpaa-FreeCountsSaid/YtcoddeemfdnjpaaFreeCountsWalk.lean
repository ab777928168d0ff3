/- The walk of FreeCounts. -/
import Derived.Test.YtcoddeemfdnjpaaFreeAwake
import Derived.Test.YtcoddeemfdnjpaaFn13
import Derived.Test.YtcoddeemfdnjpaaFn14
namespace Go.Proofs.Ytcoddeemfdnjpaa.Free
open Go.RowKit Go.Lib Go.Proofs.Ytcoddeemfdnjpaa.Fn Go.Proofs.YtcoddeemfdnjpaaW.PrintWords
theorem w64_id {x : Int} (h1 : -9223372036854775808 ≤ x) (h2 : x ≤ 9223372036854775807) : wrap64 x = x := by unfold wrap64; omega
/-- how many pieces -/
def pcs (n : Int) : Int := if n < 1 then 0 else (n - 1) / 40 + 1
theorem pieces_f (n : Int) (h : n ≤ 1000000) : free_Pieces.f n = some (pcs n) := by
  unfold free_Pieces.f pcs
  by_cases c : n < 1
  · rw [if_pos c, if_pos c]
  · rw [if_neg c, if_neg c, w64_id (x := n - 1) (by omega) (by omega), Int.tdiv_eq_ediv_of_nonneg (by omega), w64_id (x := (n - 1) / 40) (by omega) (by omega), w64_id (x := (n - 1) / 40 + 1) (by omega) (by omega)]
theorem refPieces_l (n : Int) (h : n ≤ 1000000) : ∀ (k : Nat) (x : Int), 0 ≤ x → x + k = pcs n → rollbookref08_Pieces.l0 (k + 1) n x = some (pcs n)
  | 0, x, h0, hx => by
    have e : x = pcs n := by omega
    have hb : pcs n ≤ 25000 := by unfold pcs; split <;> omega
    have hn : ¬ (n > 40 * x) := by rw [e]; unfold pcs; split <;> omega
    rw [rollbookref08_Pieces.l0, if_pos (by omega), w64_id (x := 40 * x) (by omega) (by omega), if_neg hn, e]
  | k + 1, x, h0, hx => by
    have hb : pcs n ≤ 25000 := by unfold pcs; split <;> omega
    have hlt : x < pcs n := by omega
    have hn : n > 40 * x := by unfold pcs at hlt; split at hlt <;> omega
    rw [rollbookref08_Pieces.l0, if_pos (by omega), w64_id (x := 40 * x) (by omega) (by omega), if_pos hn, if_pos (by omega), w64_id (x := x + 1) (by omega) (by omega)]
    exact refPieces_l n h k (x + 1) (by omega) (by omega)
theorem refPieces_f (n : Int) (h : n ≤ 1000000) : rollbookref08_Pieces.f ((pcs n).toNat + 1) n = some (pcs n) := by
  have h0 : 0 ≤ pcs n := by unfold pcs; split <;> omega
  exact refPieces_l n h _ 0 (by omega) (by omega)
set_option maxHeartbeats 800000 in
set_option maxRecDepth 100000 in
theorem counts_walk (n : Int) (w : World) : Calls Try.prog 4 #[.int .i64 n] w fun e w' => e = .returned (.bool true) ∧ Below w.heap.size w w' := by
  have ha := Lib.hid (awake_any w)
  by_cases hbig : n > 1000000
  · go_enter Try.func4, Try.ntmps4
    go_wp2_with fail
    refine ha.out.mono ?_
    rintro e w2 ⟨rfl, hb2⟩
    have hb2' := Lib.hid hb2
    clear hb2
    go_wp2
    go_ret
    exact ⟨rfl, hb2'.out⟩
  · have hle : n ≤ 1000000 := by omega
    have hp := Lib.hid (fun w => free_Pieces.calls n _ w (pieces_f n hle))
    have hr := Lib.hid (fun w => rollbookref08_Pieces.calls _ n _ w (refPieces_f n hle))
    have h0 : 0 ≤ pcs n := by unfold pcs; split <;> omega
    have h1 : pcs n ≤ 25000 := by unfold pcs; split <;> omega
    have h2 : n ≤ 0 → pcs n = 0 := fun h => by unfold pcs; rw [if_pos (by omega)]
    have h3 : 0 < n → n ≤ 40 * pcs n ∧ 40 * (pcs n - 1) < n := fun h => by unfold pcs; rw [if_neg (by omega)]; omega
    obtain ⟨k, hk⟩ : ∃ k, k = pcs n := ⟨_, rfl⟩
    rw [← hk] at hp hr h0 h1 h2 h3
    clear hk hbig
    have e1 : IntKind.i64.wrap (40 * k) = 40 * k := by rw [IntKind.wrap_i64]; omega
    have e2 : IntKind.i64.wrap (k - 1) = k - 1 := by rw [IntKind.wrap_i64]; omega
    have e3 : IntKind.i64.wrap (40 * (k - 1)) = 40 * (k - 1) := by rw [IntKind.wrap_i64]; omega
    by_cases hn : n ≤ 0
    · have hk0 := h2 hn
      subst hk0
      clear h2 h3 e1 e2 e3
      go_enter Try.func4, Try.ntmps4
      go_wp2_with fail
      refine ha.out.mono ?_
      rintro e w2 ⟨rfl, hb2⟩
      have hb2' := Lib.hid hb2
      clear hb2
      go_wp2_with fail
      refine (hp.out _).mono ?_
      rintro e w3 ⟨rfl, hd3⟩
      go_wp2_with fail
      refine (hr.out _).mono ?_
      rintro e w4 ⟨rfl, hd4⟩
      have hb4 := Lib.hid (hb2'.out.trans ((hd3.below.trans (hd4.below.mono hd3.below.size)).mono hb2'.out.size))
      clear hd3 hd4
      go_wp2
      go_ret
      exact ⟨rfl, hb4.out⟩
    · obtain ⟨h4, h5⟩ := h3 (by omega)
      clear h2 h3
      have hn1 : (n ≤ 0) = False := by simp; omega
      have hn2 : (0 < n) = True := by simp; omega
      clear hn
      go_enter Try.func4, Try.ntmps4
      go_wp2_with fail
      refine ha.out.mono ?_
      rintro e w2 ⟨rfl, hb2⟩
      have hb2' := Lib.hid hb2
      clear hb2
      go_wp2_with fail
      refine (hp.out _).mono ?_
      rintro e w3 ⟨rfl, hd3⟩
      go_wp2_with fail
      refine (hr.out _).mono ?_
      rintro e w4 ⟨rfl, hd4⟩
      have hb4 := Lib.hid (hb2'.out.trans ((hd3.below.trans (hd4.below.mono hd3.below.size)).mono hb2'.out.size))
      clear hd3 hd4
      go_wp2
      go_ret
      exact ⟨rfl, hb4.out⟩
end Go.Proofs.Ytcoddeemfdnjpaa.Free
