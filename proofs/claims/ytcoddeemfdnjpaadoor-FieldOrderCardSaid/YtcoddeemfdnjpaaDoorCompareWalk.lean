/- The walk of field.Compare: list by list, part by part. -/
import Derived.Test.YtcoddeemfdnjpaaDoorOrderPlain
import Derived.Deep.QuietTactic
import Derived.BigQuiet
namespace Go.Proofs.YtcoddeemfdnjpaaDoor
open Go.RowKit TextPlain
open Go.Proofs.YtcoddeemfdnjpaaDoorW.PrintMore
open Go.Proofs.YtcoddeemfdnjpaaDoorW.PrintWords hiding nums nums_length nums_append
open Lib (compareBytes)
attribute [local go_sem] max2_int min2_int max_two min_two
set_option maxHeartbeats 800000 in
set_option maxRecDepth 100000 in
theorem compare_any (A B : Option Addr) (c d : Nat) (l m : List ByteArray) (w : World) (hr : Kd.C Kd.string w A l.length l) (hr2 : Kd.C Kd.string w B m.length m) (hl : l.length < 4611686018427387904) (hm : m.length < 4611686018427387904) :
    Calls Tryd.prog 53 #[.slice A l.length c, .slice B m.length d] w fun e w' => e = .returned (.int .i64 (cmpP (lists l) (lists m))) ∧ Below w.heap.size w w' := by
  have hr' := Lib.hid hr
  have hr2' := Lib.hid hr2
  clear hr hr2
  obtain ⟨n1, hn1⟩ : ∃ n, l.length = n := ⟨_, rfl⟩
  obtain ⟨n2, hn2⟩ : ∃ n, m.length = n := ⟨_, rfl⟩
  rw [hn1] at hl ⊢
  rw [hn2] at hm ⊢
  have hn1' := Lib.hid hn1
  have hn2' := Lib.hid hn2
  clear hn1 hn2
  by_cases hside : (n2 : Int) < (n1 : Int) <;>
  (
  go_enter Tryd.func53, Tryd.ntmps53
  go_wp2_with fail
  go_loopw [12] (fun i wr => ∃ k : Nat, k ≤ n1 ∧ k ≤ n2 ∧ i = .int .i64 k ∧ Hid (Below w.heap.size w wr ∧ cmpP (lists l) (lists m) = cmpP (lists (l.drop k)) (lists (m.drop k)))) (fun i _ => (n1 - intOf i).toNat)
  case atStart => exact ⟨0, by omega, by omega, rfl, Below.refl _ _, rfl⟩
  case round =>
    obtain ⟨k, hk1, hk2, rfl, hst⟩ := hrel
    by_cases hlt : k < n1 ∧ k < n2
    · have hC := Kd.C_below hr'.out hst.out.1
      have hD := Kd.C_below hr2'.out hst.out.1
      rw [hn1'.out] at hC
      rw [hn2'.out] at hD
      obtain ⟨ad, rfl, hcell⟩ := Kd.at_string hC (k : Int) (by omega) (by omega)
      obtain ⟨bd, rfl, hcell2⟩ := Kd.at_string hD (k : Int) (by omega) (by omega)
      obtain ⟨x, hx⟩ : ∃ x, x = rdOf ByteArray.empty l (k : Int) := ⟨_, rfl⟩
      obtain ⟨y, hy⟩ : ∃ y, y = rdOf ByteArray.empty m (k : Int) := ⟨_, rfl⟩
      rw [← hx, Int.toNat_natCast] at hcell
      rw [← hy, Int.toNat_natCast] at hcell2
      have hstep : Hid (cmpP (lists l) (lists m) = if compareBytes x.data.toList y.data.toList = 0 then cmpP (lists (l.drop (k + 1))) (lists (m.drop (k + 1))) else compareBytes x.data.toList y.data.toList) := by
        show _ = _
        have e1 := hn1'.out
        have e2 := hn2'.out
        have h1 : k < l.length := by omega
        have h2 : k < m.length := by omega
        rw [hst.out.2, List.drop_eq_getElem_cons h1, List.drop_eq_getElem_cons h2, lists_cons, lists_cons, cmpP, hx, hy, rd_nat l k h1, rd_nat m k h2]
      have hb0 := Lib.hid hst.out.1
      obtain ⟨z, hz⟩ : ∃ z, compareBytes x.data.toList y.data.toList = z := ⟨_, rfl⟩
      have hzr : z = -1 ∨ z = 0 ∨ z = 1 := by rw [← hz]; exact cb_range _ _
      rw [hz] at hstep
      have hcall : Hid (∀ v : World, Calls Tryd.prog 83 #[.string x, .string y] v fun e w' => e = .returned (.int .i64 z) ∧ w' = v) := by
        intro v
        rw [← hz]
        exact Tryd.strings_Compare x y v
      clear hst hC hD hx hy hz
      have hi0 : (0 : Int) ≤ (k : Int) := by omega
      have hi1 : (k : Int) < (n1 : Int) := by omega
      have hi2 : (k : Int) < (n2 : Int) := by omega
      by_cases hz0 : z = 0
      · subst hz0
        have hnext : Hid (cmpP (lists l) (lists m) = cmpP (lists (l.drop (k + 1))) (lists (m.drop (k + 1)))) := by
          show _ = _
          rw [hstep.out, if_pos rfl]
        clear hstep hzr
        have e1 := w2 k (by omega)
        go_wp2_with fail
        go_quiet (first | (go_at_call 83; refine Calls.quiet_of_same (hcall.out _)))
        go_wp2
        refine ⟨⟨k + 1, by omega, by omega, by go_num, ?_, hnext.out⟩, by simp only [intOf]; omega⟩
        apply pw_below_drewN
        exact hb0.out
      · have hfin : Hid (cmpP (lists l) (lists m) = z) := by
          show _ = _
          rw [hstep.out, if_neg hz0]
        have hzb : (z == 0) = false := by simpa using hz0
        clear hstep hzr
        go_wp2_with fail
        go_quiet (first | (go_at_call 83; refine Calls.quiet_of_same (hcall.out _)))
        go_wp2
        go_ret
        rw [hfin.out]
        refine ⟨rfl, ?_⟩
        apply pw_below_drewN
        exact hb0.out
    · have hcz : ¬ (k : Int) < (n1 : Int) ∨ ¬ (k : Int) < (n2 : Int) := by omega
      have e1 := hn1'.out
      have e2 := hn2'.out
      have hb0 := Lib.hid hst.out.1
      have hcm := hst.out.2
      first
        | have hk : k = n2 := by omega
          have hcz2 : ¬ (k : Int) < (n2 : Int) := by omega
          have hfin : Hid (cmpP (lists l) (lists m) = 1) := by
            show _ = _
            rw [hcm, List.drop_eq_getElem_cons (show k < l.length by omega), List.drop_eq_nil_of_le (show m.length ≤ k by omega), lists_cons]
            rfl
          have hs1 : wrap64 ((n1 : Int) - n2) = (n1 : Int) - n2 := by unfold wrap64; omega
          have hs2 : ¬ ((n1 : Int) - n2 < -1) := by omega
          have hs3 : ¬ ((n1 : Int) - n2 < 1) := by omega
          clear hst hcm
          go_wp2
          go_ret
          rw [hfin.out]
          exact ⟨rfl, hb0.out⟩
        | have hk : k = n1 := by omega
          have hcz2 : ¬ (k : Int) < (n1 : Int) := by omega
          by_cases heq : n1 = n2
          · have hfin : Hid (cmpP (lists l) (lists m) = 0) := by
              show _ = _
              rw [hcm, List.drop_eq_nil_of_le (show l.length ≤ k by omega), List.drop_eq_nil_of_le (show m.length ≤ k by omega)]
              rfl
            have hs1 : wrap64 ((n1 : Int) - n2) = 0 := by unfold wrap64; omega
            have hs2 : (n1 : Int) - n2 = 0 := by omega
            clear hst hcm
            go_wp2
            go_ret
            rw [hfin.out]
            refine ⟨?_, hb0.out⟩
            simp
          · have hfin : Hid (cmpP (lists l) (lists m) = -1) := by
              show _ = _
              rw [hcm, List.drop_eq_nil_of_le (show l.length ≤ k by omega), List.drop_eq_getElem_cons (show k < m.length by omega), lists_cons]
              rfl
            have hs1 : wrap64 ((n1 : Int) - n2) = (n1 : Int) - n2 := by unfold wrap64; omega
            have hs2 : (n1 : Int) - n2 ≤ -1 := by omega
            clear hst hcm
            go_wp2
            all_goals
              go_ret
              rw [hfin.out]
              refine ⟨?_, hb0.out⟩
              simp
              try omega)
end Go.Proofs.YtcoddeemfdnjpaaDoor
