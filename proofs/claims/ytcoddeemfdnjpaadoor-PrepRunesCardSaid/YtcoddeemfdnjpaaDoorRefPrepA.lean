/- The small functions of the reference's prep. -/
import Derived.Test.YtcoddeemfdnjpaaDoorMapSmall
import Derived.Test.YtcoddeemfdnjpaaDoorFnPs
namespace Go.Proofs.YtcoddeemfdnjpaaDoor.PrepPlain
open Go.RowKit
open Go.Proofs.YtcoddeemfdnjpaaDoorW.PrintMore
open Go.Proofs.YtcoddeemfdnjpaaDoorW.PrintWords hiding nums nums_length nums_append
theorem ite_is {α : Type} {c : Prop} [Decidable c] {a b r : α} (h1 : c → a = r) (h2 : ¬ c → b = r) : (if c then a else b) = r := by
  by_cases h : c
  · rw [if_pos h]; exact h1 h
  · rw [if_neg h]; exact h2 h
theorem refDropped_f (r : Nat) : Fn.rollbookref13_Dropped.f (r : Int) = some (drp r) := by
  unfold Fn.rollbookref13_Dropped.f
  repeat' (with_reducible refine ite_is (fun _ => ?_) (fun _ => ?_))
  all_goals
    refine congrArg some ?_
    rw [Bool.eq_iff_iff, drp_iff]
    first
      | (simp only [beq_iff_eq]; omega)
      | (simp only [true_iff]; omega)
theorem refBlank_f (r : Nat) : Fn.rollbookref13_Blank.f (r : Int) = some (blk r) := by
  unfold Fn.rollbookref13_Blank.f
  repeat' (with_reducible refine ite_is (fun _ => ?_) (fun _ => ?_))
  all_goals
    refine congrArg some ?_
    rw [Bool.eq_iff_iff, blk_iff]
    first
      | (simp only [beq_iff_eq]; omega)
      | (simp only [true_iff]; omega)
theorem refSmall_j (k r : Nat) (hr : r ≤ 1114111) (b : Bool) (h : b = true ↔ ((65 ≤ r ∧ r ≤ 90) ∨ (192 ≤ r ∧ r ≤ 222 ∧ r ≠ 215) ∨ (913 ≤ r ∧ r ≤ 937 ∧ r ≠ 930) ∨ (1040 ≤ r ∧ r ≤ 1071))) : Fn.rollbookref13_Small.j0 (k + 1) (r : Int) b = some ((sml r : Nat) : Int) := by
  have e1 : wrap32 ((r : Int) + 32) = ((r + 32 : Nat) : Int) := by unfold wrap32; omega
  have e2 : wrap32 ((r : Int) + 80) = ((r + 80 : Nat) : Int) := by unfold wrap32; omega
  rw [Fn.rollbookref13_Small.j0, e1, e2, ← sml_if r b h]
  cases b
  · simp only [Bool.false_eq_true, if_false]
    by_cases c : 1024 ≤ r
    · rw [if_pos (by omega)]
      by_cases c2 : r ≤ 1039
      · rw [if_pos (by omega), if_pos ⟨c, c2⟩]
      · rw [if_neg (by omega), if_neg (fun h => c2 h.2)]
    · rw [if_neg (by omega), if_neg (fun h => c h.1)]
  · simp only [if_true]
theorem refSmall_f (k r : Nat) (hr : r ≤ 1114111) : Fn.rollbookref13_Small.f (k + 1) (r : Int) = some ((sml r : Nat) : Int) := by
  unfold Fn.rollbookref13_Small.f
  repeat' (with_reducible refine ite_is (fun _ => ?_) (fun _ => ?_))
  all_goals
    refine refSmall_j k r hr _ ?_
    first
      | (simp only [decide_eq_true_eq]; omega)
      | (simp only [true_iff]; omega)
      | (simp only [Bool.false_eq_true, false_iff]; omega)
end Go.Proofs.YtcoddeemfdnjpaaDoor.PrepPlain
