/- The small functions of prep: dropped, blank, small. -/
import Derived.Test.YtcoddeemfdnjpaaDoorPrepDecode
import Derived.Test.YtcoddeemfdnjpaaDoorFnPr
namespace Go.Proofs.YtcoddeemfdnjpaaDoor.PrepPlain
open Go.RowKit
open Go.Proofs.YtcoddeemfdnjpaaDoorW.PrintMore
open Go.Proofs.YtcoddeemfdnjpaaDoorW.PrintWords hiding nums nums_length nums_append
theorem dropped_j3 (k r : Nat) (b : Bool) : Fn.prep_dropped.j3 (k + 1) (r : Int) b = some (b || decide (r = 65279)) := by
  rw [Fn.prep_dropped.j3]
  cases b
  · rw [if_neg (by decide)]
    by_cases c : r = 65279
    · rw [if_pos (by omega)]; simp [c]
    · rw [if_neg (by omega)]; simp [c]
  · rw [if_pos rfl]; rfl
theorem dropped_j2 (k r : Nat) (b : Bool) : Fn.prep_dropped.j2 (k + 2) (r : Int) b = some (b || decide (r = 173 ∨ (8203 ≤ r ∧ r ≤ 8207) ∨ r = 65279)) := by
  rw [Fn.prep_dropped.j2]
  cases b
  · rw [if_neg (by decide)]
    by_cases c : r = 173
    · rw [if_pos (by omega)]; simp [c]
    · rw [if_neg (by omega)]
      by_cases c2 : 8203 ≤ r
      · rw [if_pos (by omega), dropped_j3]
        congr 1
        rw [Bool.eq_iff_iff]
        simp only [Bool.or_eq_true, decide_eq_true_eq, Bool.false_or]
        omega
      · rw [if_neg (by omega), dropped_j3]
        congr 1
        rw [Bool.eq_iff_iff]
        simp only [decide_eq_true_eq, Bool.false_or]
        omega
  · rw [if_pos rfl]; rfl
theorem dropped_j1 (k r : Nat) (b : Bool) : Fn.prep_dropped.j1 (k + 3) (r : Int) b = some (b || decide ((134 ≤ r ∧ r ≤ 159) ∨ r = 173 ∨ (8203 ≤ r ∧ r ≤ 8207) ∨ r = 65279)) := by
  rw [Fn.prep_dropped.j1]
  cases b
  · rw [if_neg (by decide)]
    by_cases c2 : 134 ≤ r
    · rw [if_pos (by omega), dropped_j2]
      congr 1
      rw [Bool.eq_iff_iff]
      simp only [Bool.or_eq_true, decide_eq_true_eq, Bool.false_or]
      omega
    · rw [if_neg (by omega), dropped_j2]
      congr 1
      rw [Bool.eq_iff_iff]
      simp only [decide_eq_true_eq, Bool.false_or]
      omega
  · rw [if_pos rfl]; rfl
theorem dropped_j0 (k r : Nat) (b : Bool) : Fn.prep_dropped.j0 (k + 4) (r : Int) b = some (b || decide ((127 ≤ r ∧ r ≤ 132) ∨ (134 ≤ r ∧ r ≤ 159) ∨ r = 173 ∨ (8203 ≤ r ∧ r ≤ 8207) ∨ r = 65279)) := by
  rw [Fn.prep_dropped.j0]
  cases b
  · rw [if_neg (by decide)]
    by_cases c2 : 127 ≤ r
    · rw [if_pos (by omega), dropped_j1]
      congr 1
      rw [Bool.eq_iff_iff]
      simp only [Bool.or_eq_true, decide_eq_true_eq, Bool.false_or]
      omega
    · rw [if_neg (by omega), dropped_j1]
      congr 1
      rw [Bool.eq_iff_iff]
      simp only [decide_eq_true_eq, Bool.false_or]
      omega
  · rw [if_pos rfl]; rfl
theorem dropped_f (r : Nat) : Fn.prep_dropped.f 4 (r : Int) = some (drp r) := by
  unfold Fn.prep_dropped.f
  by_cases c : r ≤ 8
  · rw [if_pos (by omega)]
    congr 1
    symm
    rw [drp_iff]
    omega
  · rw [if_neg (by omega)]
    by_cases c2 : 14 ≤ r
    · rw [if_pos (by omega), dropped_j0]
      congr 1
      rw [Bool.eq_iff_iff, drp_iff]
      simp only [Bool.or_eq_true, decide_eq_true_eq]
      omega
    · rw [if_neg (by omega), dropped_j0]
      congr 1
      rw [Bool.eq_iff_iff, drp_iff]
      simp only [decide_eq_true_eq, Bool.false_or]
      omega
theorem blank_f (r : Nat) : Fn.prep_blank.f (r : Int) = some (blk r) := by
  unfold Fn.prep_blank.f
  by_cases c1 : (r : Int) = 32
  · rw [if_pos c1]; congr 1; symm; rw [blk_iff]; omega
  · by_cases c2 : (r : Int) = 133
    · rw [if_neg c1, if_pos c2]; congr 1; symm; rw [blk_iff]; omega
    · by_cases c3 : (r : Int) = 160
      · rw [if_neg c1, if_neg c2, if_pos c3]; congr 1; symm; rw [blk_iff]; omega
      · by_cases c4 : (r : Int) = 5760
        · rw [if_neg c1, if_neg c2, if_neg c3, if_pos c4]; congr 1; symm; rw [blk_iff]; omega
        · by_cases c5 : (r : Int) = 8232
          · rw [if_neg c1, if_neg c2, if_neg c3, if_neg c4, if_pos c5]; congr 1; symm; rw [blk_iff]; omega
          · by_cases c6 : (r : Int) = 8233
            · rw [if_neg c1, if_neg c2, if_neg c3, if_neg c4, if_neg c5, if_pos c6]; congr 1; symm; rw [blk_iff]; omega
            · by_cases c7 : (r : Int) = 8239
              · rw [if_neg c1, if_neg c2, if_neg c3, if_neg c4, if_neg c5, if_neg c6, if_pos c7]; congr 1; symm; rw [blk_iff]; omega
              · by_cases c8 : (r : Int) = 8287
                · rw [if_neg c1, if_neg c2, if_neg c3, if_neg c4, if_neg c5, if_neg c6, if_neg c7, if_pos c8]; congr 1; symm; rw [blk_iff]; omega
                · by_cases c9 : (r : Int) = 12288
                  · rw [if_neg c1, if_neg c2, if_neg c3, if_neg c4, if_neg c5, if_neg c6, if_neg c7, if_neg c8, if_pos c9]; congr 1; symm; rw [blk_iff]; omega
                  · rw [if_neg c1, if_neg c2, if_neg c3, if_neg c4, if_neg c5, if_neg c6, if_neg c7, if_neg c8, if_neg c9]
                    by_cases d1 : (r : Int) ≥ 9
                    · rw [if_pos d1]
                      by_cases d2 : (r : Int) ≤ 13
                      · rw [if_pos d2]; congr 1; symm; rw [blk_iff]; omega
                      · rw [if_neg d2]
                        by_cases d3 : (r : Int) ≥ 8192
                        · rw [if_pos d3]; congr 1; rw [Bool.eq_iff_iff, blk_iff, decide_eq_true_iff]; omega
                        · rw [if_neg d3]; congr 1; symm; rw [Bool.eq_false_iff, ne_eq, blk_iff]; omega
                    · rw [if_neg d1, if_neg (by omega)]; congr 1; symm; rw [Bool.eq_false_iff, ne_eq, blk_iff]; omega
theorem small_j2 (k r : Nat) (hr : r ≤ 1114111) (b : Bool) : Fn.prep_small.j2 (k + 1) (r : Int) b = some (((if b = true then r + 32 else if 1024 ≤ r ∧ r ≤ 1039 then r + 80 else r : Nat)) : Int) := by
  have e1 : wrap32 ((r : Int) + 32) = ((r + 32 : Nat) : Int) := by unfold wrap32; omega
  have e2 : wrap32 ((r : Int) + 80) = ((r + 80 : Nat) : Int) := by unfold wrap32; omega
  rw [Fn.prep_small.j2, e1, e2]
  cases b
  · simp only [Bool.false_eq_true, if_false]
    by_cases c : 1024 ≤ r
    · rw [if_pos (by omega)]
      by_cases c2 : r ≤ 1039
      · rw [if_pos (by omega), if_pos ⟨c, c2⟩]
      · rw [if_neg (by omega), if_neg (fun h => c2 h.2)]
    · rw [if_neg (by omega), if_neg (fun h => c h.1)]
  · simp only [if_true]
theorem sml_if (r : Nat) (b : Bool) (h : b = true ↔ ((65 ≤ r ∧ r ≤ 90) ∨ (192 ≤ r ∧ r ≤ 222 ∧ r ≠ 215) ∨ (913 ≤ r ∧ r ≤ 937 ∧ r ≠ 930) ∨ (1040 ≤ r ∧ r ≤ 1071))) : (if b = true then r + 32 else if 1024 ≤ r ∧ r ≤ 1039 then r + 80 else r) = sml r := by
  unfold sml
  by_cases c : b = true
  · rw [if_pos c, if_pos (h.1 c)]
  · rw [if_neg c, if_neg (fun x => c (h.2 x))]
theorem small_j1 (k r : Nat) (hr : r ≤ 1114111) (b : Bool) (h : b = true → (65 ≤ r ∧ r ≤ 90) ∨ (192 ≤ r ∧ r ≤ 222 ∧ r ≠ 215)) (h' : (65 ≤ r ∧ r ≤ 90) ∨ (192 ≤ r ∧ r ≤ 222 ∧ r ≠ 215) → b = true) : Fn.prep_small.j1 (k + 2) (r : Int) b = some ((sml r : Nat) : Int) := by
  rw [Fn.prep_small.j1]
  cases b
  · rw [if_neg (by decide)]
    have hn : ¬ ((65 ≤ r ∧ r ≤ 90) ∨ (192 ≤ r ∧ r ≤ 222 ∧ r ≠ 215)) := fun x => by cases h' x
    by_cases c1 : 913 ≤ r
    · rw [if_pos (by omega)]
      by_cases c2 : r ≤ 937
      · rw [if_pos (by omega)]
        by_cases c3 : r = 930
        · rw [if_pos (by omega), if_neg (by omega), small_j2 k r hr, sml_if r _ (by simp; omega)]
        · rw [if_neg (by omega), small_j2 k r hr, sml_if r _ (by simp only [bne_iff_ne]; omega)]
      · rw [if_neg (by omega)]
        by_cases c4 : 1040 ≤ r
        · rw [if_pos (by omega), small_j2 k r hr, sml_if r _ (by rw [decide_eq_true_iff]; omega)]
        · rw [if_neg (by omega), small_j2 k r hr, sml_if r _ (by simp; omega)]
    · rw [if_neg (by omega), if_neg (by omega), small_j2 k r hr, sml_if r _ (by simp; omega)]
  · rw [if_pos rfl, small_j2 k r hr, sml_if r _ (by have := h rfl; simp; omega)]
theorem small_f (r : Nat) (hr : r ≤ 1114111) : Fn.prep_small.f 3 (r : Int) = some ((sml r : Nat) : Int) := by
  have key : ∀ b : Bool, (b = true ↔ (65 ≤ r ∧ r ≤ 90)) → Fn.prep_small.j0 3 (r : Int) b = some ((sml r : Nat) : Int) := by
    intro b hb
    rw [Fn.prep_small.j0]
    by_cases cb : b = true
    · rw [if_pos cb, small_j2 1 r hr, sml_if r _ (by have := hb.1 cb; rw [cb]; simp; omega)]
    · rw [if_neg cb]
      have hn : ¬ (65 ≤ r ∧ r ≤ 90) := fun h => cb (hb.2 h)
      by_cases c1 : 192 ≤ r
      · rw [if_pos (by omega)]
        by_cases c2 : r ≤ 222
        · rw [if_pos (by omega)]
          exact small_j1 0 r hr _ (by simp only [bne_iff_ne]; omega) (by simp only [bne_iff_ne]; omega)
        · rw [if_neg (by omega)]
          exact small_j1 0 r hr false (by simp) (fun h => by omega)
      · rw [if_neg (by omega)]
        exact small_j1 0 r hr false (by simp) (fun h => by omega)
  unfold Fn.prep_small.f
  by_cases c : 65 ≤ r
  · rw [if_pos (by omega)]
    exact key _ (by rw [decide_eq_true_iff]; omega)
  · rw [if_neg (by omega)]
    exact key _ (by simp; omega)
theorem dropped_any (r : Nat) (w : World) : Calls Tryd.prog 91 #[.int .i32 (r : Int)] w fun e w' => e = .returned (.bool (drp r)) ∧ Below w.heap.size w w' :=
  (Fn.prep_dropped.calls 4 r _ w (dropped_f r)).mono fun _ _ ⟨h1, h2⟩ => ⟨h1, h2.below⟩
theorem blank_any (r : Nat) (w : World) : Calls Tryd.prog 92 #[.int .i32 (r : Int)] w fun e w' => e = .returned (.bool (blk r)) ∧ Below w.heap.size w w' :=
  (Fn.prep_blank.calls r _ w (blank_f r)).mono fun _ _ ⟨h1, h2⟩ => ⟨h1, h2.below⟩
theorem small_any (r : Nat) (hr : r ≤ 1114111) (w : World) : Calls Tryd.prog 93 #[.int .i32 (r : Int)] w fun e w' => e = .returned (.int .i32 ((sml r : Nat) : Int)) ∧ Below w.heap.size w w' :=
  (Fn.prep_small.calls 3 r _ w (small_f r hr)).mono fun _ _ ⟨h1, h2⟩ => ⟨h1, h2.below⟩
end Go.Proofs.YtcoddeemfdnjpaaDoor.PrepPlain
