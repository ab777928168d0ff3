/- One function's walk: its lines were printed by the kit's print.py for this claim (one text a function). -/
import Derived.Test.YtcoddeemfdnjpaaFnBase
namespace Go.Proofs.Ytcoddeemfdnjpaa.Fn
open Go.RowKit Go.Proofs.YtcoddeemfdnjpaaW.PrintWords Go.Proofs.YtcoddeemfdnjpaaW.PrintLast Go.Proofs.YtcoddeemfdnjpaaW.PrintMore
attribute [local go_sem] max2_int min2_int max_two min_two max_three min_three max_four min_four   -- for this text's walks alone
set_option linter.unusedVariables false
set_option linter.unusedSimpArgs false

/-! ### field_Put: function 38 -/
mutual
def field_Put.j0 : Nat → ByteArray → Int → Int → Bool → Option (ByteArray × Int)
  | 0, _, _, _, _ => none
  | k + 1, x0, x1, x2, x26 => if x26 = true then (some ((⟨#[]⟩ : ByteArray), 1)) else (if 0 ≤ x2 then (if (x2 : Int).toNat ≤ 281474976710656 then (field_Put.l0 k x0 x1 (List.replicate (x2 : Int).toNat 0) (wrap64 (x2 - 1))) else (none)) else (none))
def field_Put.l0 : Nat → ByteArray → Int → List Int → Int → Option (ByteArray × Int)
  | 0, _, _, _, _ => none
  | k + 1, x0, x1, x8, x9 => if x9 ≥ 0 then (if 0 ≤ x9 then (if x9 < (x8.length : Int) then (field_Put.l0 k x0 (x1 / 256) (x8.set (x9 : Int).toNat ((x1) % 256)) (wrap64 (x9 - 1))) else (none)) else (none)) else (if x0.size + (strOfNums x8).size ≤ 9223372036854775807 then (some (x0 ++ (strOfNums x8), 0)) else (none))
end
def field_Put.f (k : Nat) (a0 : ByteArray) (a1 : Int) (a2 : Int) : Option (ByteArray × Int) := if a2 < 1 then (field_Put.j0 k a0 a1 a2 true) else (if a2 > 8 then (field_Put.j0 k a0 a1 a2 true) else (if a2 < 8 then (if 0 ≤ (wrap64 (8 * a2)) then (field_Put.j0 k a0 a1 a2 (decide ((shr .u64 a1 (wrap64 (8 * a2))) > 0))) else (none)) else (field_Put.j0 k a0 a1 a2 false)))
theorem field_Put.mono_l : ∀ k, (∀ y0 y1 y2 y3, LeO (field_Put.j0 k y0 y1 y2 y3) (field_Put.j0 (k + 1) y0 y1 y2 y3)) ∧ (∀ y0 y1 y2 y3, LeO (field_Put.l0 k y0 y1 y2 y3) (field_Put.l0 (k + 1) y0 y1 y2 y3))
  | 0 => ⟨fun _ _ _ _ r h => by simp [field_Put.j0] at h, fun _ _ _ _ r h => by simp [field_Put.l0] at h⟩
  | k + 1 => by
    obtain ⟨ih0, ih1⟩ := field_Put.mono_l k
    refine ⟨?_, ?_⟩
    · intro y0 y1 y2 y3
      unfold field_Put.j0
      repeat' first
      | (with_reducible exact ih0 _ _ _ _)
      | (with_reducible exact ih1 _ _ _ _)
      | (with_reducible exact LeO.refl _)
      | (with_reducible exact LeO.none _)
      | (with_reducible refine LeO.ite ?_ ?_)
      | (with_reducible refine LeO.bind ?_ (fun _ => ?_))
      | exact ih0 _ _ _ _
      | exact ih1 _ _ _ _
      | exact LeO.none _
      | refine LeO.ite ?_ ?_
      | refine LeO.bind ?_ (fun _ => ?_)
    · intro y0 y1 y2 y3
      unfold field_Put.l0
      repeat' first
      | (with_reducible exact ih0 _ _ _ _)
      | (with_reducible exact ih1 _ _ _ _)
      | (with_reducible exact LeO.refl _)
      | (with_reducible exact LeO.none _)
      | (with_reducible refine LeO.ite ?_ ?_)
      | (with_reducible refine LeO.bind ?_ (fun _ => ?_))
      | exact ih0 _ _ _ _
      | exact ih1 _ _ _ _
      | exact LeO.none _
      | refine LeO.ite ?_ ?_
      | refine LeO.bind ?_ (fun _ => ?_)
theorem field_Put.mono : ∀ a0 a1 a2 k, LeO (field_Put.f k a0 a1 a2) (field_Put.f (k + 1) a0 a1 a2) := by
  intro a0 a1 a2 k
  obtain ⟨ih0, ih1⟩ := field_Put.mono_l k
  unfold field_Put.f
  repeat' first
      | (with_reducible exact ih0 _ _ _ _)
      | (with_reducible exact ih1 _ _ _ _)
      | (with_reducible exact LeO.refl _)
      | (with_reducible exact LeO.none _)
      | (with_reducible refine LeO.ite ?_ ?_)
      | (with_reducible refine LeO.bind ?_ (fun _ => ?_))
      | exact ih0 _ _ _ _
      | exact ih1 _ _ _ _
      | exact LeO.none _
      | refine LeO.ite ?_ ?_
      | refine LeO.bind ?_ (fun _ => ?_)
set_option maxHeartbeats 8000000 in
set_option maxRecDepth 100000 in
theorem field_Put.calls (k : Nat) (a0 : ByteArray) (a1 : Int) (a2 : Int) (r1 : ByteArray) (r2 : Int) (w : World) (h : field_Put.f k a0 a1 a2 = some (r1, r2)) :
    Calls Try.prog 38 #[.string a0, .int .u64 a1, .int .i64 a2] w fun e w' => e = .returned (.tuple #[.string r1, .int .i64 r2]) ∧ Below w.heap.size w w' := by
  have HB := Aside0.mk (Below.refl w.heap.size w)
  have H : (if a2 < 1 then (field_Put.j0 k a0 a1 a2 true) else (if a2 > 8 then (field_Put.j0 k a0 a1 a2 true) else (if a2 < 8 then (if 0 ≤ (wrap64 (8 * a2)) then (field_Put.j0 k a0 a1 a2 (decide ((shr .u64 a1 (wrap64 (8 * a2))) > 0))) else (none)) else (field_Put.j0 k a0 a1 a2 false)))) = some (r1, r2) := h
  clear h
  have HC4 := Aside0.mk H
  clear H
  go_enter Try.func38, Try.ntmps38
  go_upto_region 1 with (fail)
  go_cut [26] (fun v26 wc => ∃ (kq : Nat) (x26_3 : Bool), v26 = .bool x26_3 ∧ Aside0 (field_Put.j0 kq a0 a1 a2 x26_3 = some (r1, r2)) ∧ Aside0 (kq ≤ k) ∧ Aside0 (Below w.heap.size w wc))
  case first =>
    have H := HC4.out
    clear HC4
    by_cases c5 : a2 < 1
    · rw [if_pos c5] at H
      have c5b0 : decide (a2 < 1) = true := decide_eq_true c5
      clear c5
      (first | rw [c5b0] | (simp only [i64_w, i32_w]; rw [c5b0]) | skip)
      have H' := Aside0.mk H
      clear H
      go_wp2
      go_meet
      case rel => exact ⟨_, (true), (by first | rfl | (simp; done) | (simp [*]; done)), H', ⟨by first | omega | exact Nat.le_refl _⟩, ⟨by repeat (first | (with_reducible first | exact HB.out | apply below_alloc | apply pw_below_drewN | apply below_drew1) | exact HB.out)⟩⟩
    · rw [if_neg c5] at H
      have c5b0 : decide (a2 < 1) = false := decide_eq_false c5
      clear c5
      (first | rw [c5b0] | (simp only [i64_w, i32_w]; rw [c5b0]) | skip)
      by_cases c6 : a2 > 8
      · rw [if_pos c6] at H
        have c6b0 : decide (8 < a2) = true := decide_eq_true c6
        clear c6
        have H' := Aside0.mk H
        clear H
        go_wp2
        go_meet
        case rel => exact ⟨_, (true), (by first | rfl | (simp; done) | (simp [*]; done)), H', ⟨by first | omega | exact Nat.le_refl _⟩, ⟨by repeat (first | (with_reducible first | exact HB.out | apply below_alloc | apply pw_below_drewN | apply below_drew1) | exact HB.out)⟩⟩
      · rw [if_neg c6] at H
        have c6b0 : decide (8 < a2) = false := decide_eq_false c6
        clear c6
        by_cases c7 : a2 < 8
        · rw [if_pos c7] at H
          have c7b0 : decide (a2 < 8) = true := decide_eq_true c7
          clear c7
          obtain ⟨ji8, hji8⟩ : ∃ j_ : Int, (wrap64 (8 * a2)) = j_ := ⟨_, rfl⟩
          replace H : (if 0 ≤ (ji8) then (field_Put.j0 k a0 a1 a2 (decide ((shr .u64 a1 (ji8)) > 0))) else (none)) = some (r1, r2) := by first | (rw [hji8] at H; exact H) | (simp only [hji8] at H ⊢; exact H)
          have hji8w : (IntKind.i64.wrap (8 * a2)) = ji8 := (i64_w _).trans hji8
          by_cases c9 : 0 ≤ (ji8)
          · rw [if_pos c9] at H
            have c9b0 := eq_true c9
            have c9b1 : decide (0 ≤ (ji8)) = true := decide_eq_true c9
            clear c9
            obtain ⟨ji10, hji10⟩ : ∃ j_ : Int, (shr .u64 a1 (ji8)) = j_ := ⟨_, rfl⟩
            replace H : (field_Put.j0 k a0 a1 a2 (decide ((ji10) > 0))) = some (r1, r2) := by first | (rw [hji10] at H; exact H) | (simp only [hji10] at H ⊢; exact H)
            have hji10_ : (a1 / 2 ^ min (ji8).toNat 64) = ji10 := hji10
            have hji10z : (ji8) ≤ 64 → (a1 / 2 ^ (ji8).toNat) = ji10 := shr_small hji10
            have H' := Aside0.mk H
            clear H
            go_wp2
            go_meet
            case rel => exact ⟨_, (decide ((ji10) > 0)), (by first | rfl | (simp; done) | (simp only [← hji10] <;> (first | rfl | simp)) | (simp [*]; done)), H', ⟨by first | omega | exact Nat.le_refl _⟩, ⟨by repeat (first | (with_reducible first | exact HB.out | apply below_alloc | apply pw_below_drewN | apply below_drew1) | exact HB.out)⟩⟩
          · rw [if_neg c9] at H
            exact absurd H (by simp)
        · rw [if_neg c7] at H
          have c7b0 : decide (a2 < 8) = false := decide_eq_false c7
          clear c7
          have H' := Aside0.mk H
          clear H
          go_wp2
          go_meet
          case rel => exact ⟨_, (false), (by first | rfl | (simp; done) | (simp [*]; done)), H', ⟨by first | omega | exact Nat.le_refl _⟩, ⟨by repeat (first | (with_reducible first | exact HB.out | apply below_alloc | apply pw_below_drewN | apply below_drew1) | exact HB.out)⟩⟩
  case rest =>
    clear HC4
    try clear p2
    try clear c3
    try clear c5
    try clear c5b0
    try clear c6
    try clear c6b0
    try clear p6
    try clear c7
    try clear c7b0
    try clear c9
    try clear c9b0
    try clear c9b1
    obtain ⟨kq, x26_3, rfl, HA, HJ3, HB⟩ := hcut
    cases kq with
    | zero => exact absurd HA.out (by simp [field_Put.j0])
    | succ kj3 =>
      have H := HA.out
      clear HA
      simp only [field_Put.j0] at H
      by_cases c11 : x26_3 = true
      · subst c11
        have H1 : (some ((⟨#[]⟩ : ByteArray), 1)) = some (r1, r2) := by rw [if_pos rfl] at H; exact H
        clear H
        have H := H1
        clear H1
        simp only [Option.some.injEq, Prod.mk.injEq] at H
        obtain ⟨rfl, rfl⟩ := H
        go_wp2
        go_ret2
        exact ⟨by first | rfl | (simp [errW_none, errW_some] <;> rfl) | (simp [*, errW_none, errW_some] <;> rfl), by repeat (first | (with_reducible first | exact HB.out | apply below_alloc | apply pw_below_drewN | apply below_drew1) | exact HB.out)⟩
      · replace c11 := Bool.eq_false_iff.mpr c11
        subst c11
        have H1 : (if 0 ≤ a2 then (if (a2 : Int).toNat ≤ 281474976710656 then (field_Put.l0 kj3 a0 a1 (List.replicate (a2 : Int).toNat 0) (wrap64 (a2 - 1))) else (none)) else (none)) = some (r1, r2) := by rw [if_neg (show ¬ (false = true) by decide)] at H; exact H
        clear H
        have H := H1
        clear H1
        by_cases c12 : 0 ≤ a2
        · rw [if_pos c12] at H
          have c12b0 := eq_true c12
          have c12b1 : decide (0 ≤ a2) = true := decide_eq_true c12
          clear c12
          by_cases c13 : (a2 : Int).toNat ≤ 281474976710656
          · rw [if_pos c13] at H
            have c13b0 := eq_true c13
            have c13b1 : decide ((a2 : Int).toNat ≤ 281474976710656) = true := decide_eq_true c13
            clear c13
            obtain ⟨y235, hy235⟩ : ∃ y_ : List Int, y_ = (List.replicate (a2 : Int).toNat 0) := ⟨_, rfl⟩
            replace H : (field_Put.l0 kj3 a0 a1 y235 (wrap64 (a2 - 1))) = some (r1, r2) := by first | (rw [hy235]; with_reducible exact H) | (have H2_ := (Option.bind_some _ _).symm.trans H; rw [hy235]; with_reducible exact H2_) | (have H2_ := (Option.bind_some _ _).symm.trans H; with_reducible exact H2_) | with_reducible exact H | (rw [hy235]; exact H) | exact H
            have Ny235 := Aside0.mk hy235
            clear hy235
            have H' := Aside0.mk H
            clear H
            go_wp2_with (first | ((with_reducible refine gate_dst (N := 28) rfl ?_); refine Kd.R_make (Kd.int .u8) _ 5 rfl (N := 28) rfl 70 _ _ rfl a2 rfl rfl Try.underlying70 (.int .u8 0) 1 info5 rfl (by decide) (by omega) 0 (ok := fun _ => True) (okp := fun _ => True) rfl (fun _ hk => hk) trivial (of_decide_eq_true (by first | (with_reducible assumption) | assumption)) (Nat.le_trans (Nat.mul_le_mul_right _ (of_decide_eq_true (by first | (with_reducible assumption) | assumption) : a2.toNat ≤ 281474976710656)) (by omega)) (Below.refl _ _) (Nat.le_refl _) ?_; intro v236 w14 ho15 hb hg_ hnew_; clear hg_ hnew_; (first | rw [← Ny235.out] at ho15 | (simp only [Int.reduceToNat] at ho15; rw [← Ny235.out] at ho15)); have n0_ := Aside0.mk (Kd.R_lower ho15 (below_size (by repeat (first | (with_reducible first | exact HB.out | apply below_alloc | apply pw_below_drewN | apply below_drew1) | exact HB.out)))); have n1_ := Aside0.mk (below_step (by repeat (first | (with_reducible first | exact HB.out | apply below_alloc | apply pw_below_drewN | apply below_drew1) | exact HB.out)) hb); clear HB; have HO237 := n0_; have HB := n1_; clear n0_ n1_; clear hb ho15))
            go_loopg [1, 9] kj3 (fun kq v1 v9 w' => ∃ (x1_2 : Int) (x8_2 : List Int) (x9_2 : Int), v1 = .int .u64 x1_2 ∧ v9 = .int .i64 x9_2 ∧ Aside0 (field_Put.l0 kq a0 x1_2 x8_2 x9_2 = some (r1, r2)) ∧ Aside0 (kq ≤ kj3) ∧ Aside0 (Kd.R (Kd.int .u8) 5 w' w.heap.size (fun _ => True) v236 x8_2) ∧ Aside0 (Below w.heap.size w w'))
            case atStart => exact ⟨(a1), (y235), (wrap64 (a2 - 1)), (by first | rfl | (simp; done) | (simp [*]; done)), (by first | rfl | (simp; done) | (simp [*]; done)), H', ⟨Nat.le_refl _⟩, ⟨by (with_reducible repeat (first | apply Kd.R_alloc | apply Kd.R_drewN | apply Kd.R_drew)); exact HO237.out⟩, ⟨by repeat (first | (with_reducible first | exact HB.out | apply below_alloc | apply pw_below_drewN | apply below_drew1) | exact HB.out)⟩⟩
            case round =>
              clear H'
              try clear c1
              try clear p2
              try clear c3
              try clear c5
              try clear c5b0
              try clear c6
              try clear c6b0
              try clear p6
              try clear c7
              try clear c7b0
              try clear c9
              try clear c9b0
              try clear c9b1
              try clear c11
              try clear c12
              try clear c12b0
              try clear c12b1
              try clear c13
              try clear c13b0
              try clear c13b1
              try clear p2
              try clear p6
              obtain ⟨x1_2, x8_2, x9_2, rfl, rfl, HA, HK2, HO_8, HB⟩ := hrel
              cases gk with
              | zero => exact absurd HA.out (by simp [field_Put.l0])
              | succ k2 =>
                have H := HA.out
                clear HA
                simp only [field_Put.l0] at H
                by_cases c16 : x9_2 ≥ 0
                · rw [if_pos c16] at H
                  have c16b0 : decide (0 ≤ x9_2) = true := decide_eq_true c16
                  clear c16
                  by_cases c17 : 0 ≤ x9_2
                  · rw [if_pos c17] at H
                    have c17b0 : decide (0 ≤ x9_2) = true := decide_eq_true c17
                    clear c17
                    by_cases c18 : x9_2 < (x8_2.length : Int)
                    · rw [if_pos c18] at H
                      have c18b0 : decide (x9_2 < (x8_2.length : Int)) = true := decide_eq_true c18
                      clear c18
                      obtain ⟨y238, hy238⟩ : ∃ y_ : List Int, y_ = (x8_2.set (x9_2 : Int).toNat ((x1_2) % 256)) := ⟨_, rfl⟩
                      replace H : (field_Put.l0 k2 a0 (x1_2 / 256) y238 (wrap64 (x9_2 - 1))) = some (r1, r2) := by first | (rw [hy238]; with_reducible exact H) | (have H2_ := (Option.bind_some _ _).symm.trans H; rw [hy238]; with_reducible exact H2_) | (have H2_ := (Option.bind_some _ _).symm.trans H; with_reducible exact H2_) | with_reducible exact H | (rw [hy238]; exact H) | exact H
                      have Ny238 := Aside0.mk hy238
                      clear hy238
                      have H' := Aside0.mk H
                      clear H
                      have p19 : 0 ≤ (x9_2 : Int) := of_decide_eq_true (by first | (with_reducible assumption) | assumption)
                      have q19 : (x9_2 : Int) < ((x8_2.length : Int) : Int) := of_decide_eq_true (by first | (with_reducible assumption) | assumption)
                      obtain ⟨go19, co19, eo19, gb19, gl19, cl19, HG19⟩ := Kd.R_form HO_8.out (by omega)
                      (first | cases eo19 | (injection eo19 with ea_ en_ ec_; (first | subst ea_ | (injection ea_ with ea_; subst ea_)); subst ec_; clear en_))
                      have GB19 := Aside0.mk gb19
                      have GG19 := Aside0.mk HG19
                      clear gb19 gl19 HG19
                      obtain ⟨hx19_0, hf19_0⟩ := Kd.R_celln 0 HO_8.out (x9_2 : Int) p19 q19
                      replace p19 := eq_true p19
                      replace q19 := eq_true q19
                      have HP20 := Kd.R_putg HO_8.out (x9_2 : Int) ((x1_2) % 256)
                      go_wp2_with (first | ((with_reducible refine gate_store (t := 5) (p := 39) rfl ?_); refine store_event (t := 5) (p := 39) (v := ?vo_w21) (w1 := (wr.setCell ⟨go19, (x9_2 : Int).toNat, none⟩ (.int .u8 ((x1_2) % 256)))) ?hg ?ho ?hn ?hr ?_; (case ho => rfl); (case hg => rfl); (case hn => rfl); (case hr => first | (go_simp; done) | (go_simp; rfl)); intro w21 hw; have hg : wr.grownBy w21 (some go19) := (by rw [hw]; exact HP20.2); have hp_ : Kd.R (Kd.int .u8) 5 w21 w.heap.size (fun _ => True) (.slice (some ⟨go19, 0, none⟩) x8_2.length co19) y238 := (by rw [hw, Ny238.out]; exact HP20.1); clear HP20; have n0_ := Aside0.mk (hp_); have n1_ := Aside0.mk ((by rw [hw]; exact below_set (HB.out) GB19.out : Below w.heap.size w w21)); clear HO_8; clear HB; have HO_8 := n0_; have HB := n1_; clear n0_ n1_; clear hg hw hp_))
                      go_roundg k2
                      case measure => have := HJ3.out; have := HK2.out; omega
                      case rel => exact ⟨(x1_2 / 256), (y238), (wrap64 (x9_2 - 1)), (by first | rfl | (simp; done) | (simp [*]; done)), (by first | rfl | (simp; done) | (simp [*]; done)), H', ⟨by have := HJ3.out; have := HK2.out; omega⟩, ⟨by (with_reducible repeat (first | apply Kd.R_alloc | apply Kd.R_drewN | apply Kd.R_drew)); exact HO_8.out⟩, ⟨by repeat (first | (with_reducible first | exact HB.out | apply below_alloc | apply pw_below_drewN | apply below_drew1) | exact HB.out)⟩⟩
                    · rw [if_neg c18] at H
                      exact absurd H (by simp)
                  · rw [if_neg c17] at H
                    exact absurd H (by simp)
                · rw [if_neg c16] at H
                  have c16b0 : decide (0 ≤ x9_2) = false := decide_eq_false c16
                  clear c16
                  by_cases c22 : a0.size + (strOfNums x8_2).size ≤ 9223372036854775807
                  · rw [if_pos c22] at H
                    have c22b0 := eq_true c22
                    have c22b1 : decide (a0.size + (strOfNums x8_2).size ≤ 9223372036854775807) = true := decide_eq_true c22
                    try have c22b2 : (9223372036854775807 < a0.size + (strOfNums x8_2).size) = False := eq_false (Nat.not_lt.2 c22)
                    simp only [Option.some.injEq, Prod.mk.injEq] at H
                    obtain ⟨rfl, rfl⟩ := H
                    have hcv23 := own_string (P := Try.prog) Try.underlying70 Try.underlying5 Try.underlying9 (Kd.own_of_R HO_8.out)
                    go_wp2
                    go_ret2
                    exact ⟨by first | rfl | (simp [errW_none, errW_some] <;> rfl) | (simp [*, errW_none, errW_some] <;> rfl), by repeat (first | (with_reducible first | exact HB.out | apply below_alloc | apply pw_below_drewN | apply below_drew1) | exact HB.out)⟩
                  · rw [if_neg c22] at H
                    exact absurd H (by simp)
          · rw [if_neg c13] at H
            exact absurd H (by simp)
        · rw [if_neg c12] at H
          exact absurd H (by simp)

end Go.Proofs.Ytcoddeemfdnjpaa.Fn
