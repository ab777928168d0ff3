/- One function's walk: its lines were printed by the kit's print.py for this claim (one text a function). -/
import Derived.Test.YtcoddeemfdnjpaaFnBase
namespace Go.Proofs.Ytcoddeemfdnjpaa.Fn
open Go.RowKit Go.Proofs.YtcoddeemfdnjpaaW.PrintWords Go.Proofs.YtcoddeemfdnjpaaW.PrintLast Go.Proofs.YtcoddeemfdnjpaaW.PrintMore
attribute [local go_sem] max2_int min2_int max_two min_two max_three min_three max_four min_four   -- for this text's walks alone
set_option linter.unusedVariables false
set_option linter.unusedSimpArgs false

/-! ### rollbookref08_Pieces: function 14 -/
def rollbookref08_Pieces.l0 : Nat → Int → Int → Option (Int)
  | 0, _, _ => none
  | k + 1, x0, x3 => if x3 < 1000000 then (if x0 > (wrap64 (40 * x3)) then (if x0 ≤ 40000000 then (rollbookref08_Pieces.l0 k x0 (wrap64 (x3 + 1))) else (some x3)) else (some x3)) else (some x3)
def rollbookref08_Pieces.f (k : Nat) (a0 : Int) : Option (Int) := rollbookref08_Pieces.l0 k a0 0
theorem rollbookref08_Pieces.mono_l : ∀ k, (∀ y0 y1, LeO (rollbookref08_Pieces.l0 k y0 y1) (rollbookref08_Pieces.l0 (k + 1) y0 y1))
  | 0 => fun _ _ r h => by simp [rollbookref08_Pieces.l0] at h
  | k + 1 => by
    have ih0 := rollbookref08_Pieces.mono_l k
    · intro y0 y1
      unfold rollbookref08_Pieces.l0
      repeat' first
      | (with_reducible exact ih0 _ _)
      | (with_reducible exact LeO.refl _)
      | (with_reducible exact LeO.none _)
      | (with_reducible refine LeO.ite ?_ ?_)
      | (with_reducible refine LeO.bind ?_ (fun _ => ?_))
      | exact ih0 _ _
      | exact LeO.none _
      | refine LeO.ite ?_ ?_
      | refine LeO.bind ?_ (fun _ => ?_)
theorem rollbookref08_Pieces.mono : ∀ a0 k, LeO (rollbookref08_Pieces.f k a0) (rollbookref08_Pieces.f (k + 1) a0) := by
  intro a0 k
  have ih0 := rollbookref08_Pieces.mono_l k
  unfold rollbookref08_Pieces.f
  repeat' first
      | (with_reducible exact ih0 _ _)
      | (with_reducible exact LeO.refl _)
      | (with_reducible exact LeO.none _)
      | (with_reducible refine LeO.ite ?_ ?_)
      | (with_reducible refine LeO.bind ?_ (fun _ => ?_))
      | exact ih0 _ _
      | exact LeO.none _
      | refine LeO.ite ?_ ?_
      | refine LeO.bind ?_ (fun _ => ?_)
set_option maxHeartbeats 8000000 in
set_option maxRecDepth 100000 in
theorem rollbookref08_Pieces.calls (k : Nat) (a0 : Int) (r : Int) (w : World) (h : rollbookref08_Pieces.f k a0 = some r) :
    Calls Try.prog 14 #[.int .i64 a0] w fun e w' => e = .returned (.int .i64 r) ∧ Drawn0 w w' := by
  have H : (rollbookref08_Pieces.l0 k a0 0) = some r := h
  clear h
  have H' := Aside0.mk H
  clear H
  go_enter Try.func14, Try.ntmps14
  go_wp2
  go_loopg [3] k (fun kq v3 w' => ∃ (x3_1 : Int), v3 = .int .i64 x3_1 ∧ Aside0 (rollbookref08_Pieces.l0 kq a0 x3_1 = some r) ∧ Aside0 (kq ≤ k) ∧ Drawn0 w w')
  case atStart => exact ⟨(0), (by first | rfl | (simp; done) | (simp [*]; done)), H', ⟨Nat.le_refl _⟩, by repeat (first | exact Drawn0.refl _ | apply Drawn0.step)⟩
  case round =>
    clear H'
    try clear c1
    obtain ⟨x3_1, rfl, HA, HK1, ⟨m1, rfl⟩⟩ := hrel
    cases gk with
    | zero => exact absurd HA.out (by simp [rollbookref08_Pieces.l0])
    | succ k1 =>
      have H := HA.out
      clear HA
      simp only [rollbookref08_Pieces.l0] at H
      by_cases c2 : x3_1 < 1000000
      · rw [if_pos c2] at H
        have c2b0 : decide (x3_1 < 1000000) = true := decide_eq_true c2
        clear c2
        by_cases c3 : a0 > (wrap64 (40 * x3_1))
        · rw [if_pos c3] at H
          have c3b0 : decide ((wrap64 (40 * x3_1)) < a0) = true := decide_eq_true c3
          clear c3
          by_cases c4 : a0 ≤ 40000000
          · rw [if_pos c4] at H
            have c4b0 : decide (a0 ≤ 40000000) = true := decide_eq_true c4
            clear c4
            have H' := Aside0.mk H
            clear H
            go_wp2
            go_roundg k1
            case measure => have := HK1.out; omega
            case rel => exact ⟨(wrap64 (x3_1 + 1)), (by first | rfl | (simp; done) | (simp [*]; done)), H', ⟨by have := HK1.out; omega⟩, by repeat (first | exact Drawn0.refl _ | apply Drawn0.step)⟩
          · rw [if_neg c4] at H
            have c4b0 : decide (a0 ≤ 40000000) = false := decide_eq_false c4
            clear c4
            obtain rfl := Option.some.inj H
            go_wp2
            go_ret
            exact ⟨by first | rfl | (simp; done) | (simp [*]; done), by repeat (first | exact Drawn0.refl _ | apply Drawn0.step)⟩
        · rw [if_neg c3] at H
          have c3b0 : decide ((wrap64 (40 * x3_1)) < a0) = false := decide_eq_false c3
          clear c3
          obtain rfl := Option.some.inj H
          go_wp2
          go_ret
          exact ⟨by first | rfl | (simp; done) | (simp [*]; done), by repeat (first | exact Drawn0.refl _ | apply Drawn0.step)⟩
      · rw [if_neg c2] at H
        have c2b0 : decide (x3_1 < 1000000) = false := decide_eq_false c2
        clear c2
        obtain rfl := Option.some.inj H
        go_wp2
        go_ret
        exact ⟨by first | rfl | (simp; done) | (simp [*]; done), by repeat (first | exact Drawn0.refl _ | apply Drawn0.step)⟩

end Go.Proofs.Ytcoddeemfdnjpaa.Fn
