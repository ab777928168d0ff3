/- Functions' walks: their lines were printed by the kit's print.py for this claim (several functions in one text). -/
import Derived.Test.YtcoddeemfdnjpaaDoorFnBase
import Derived.Test.YtcoddeemfdnjpaaDoorFnPr
import Derived.Test.YtcoddeemfdnjpaaDoorFnPr
namespace Go.Proofs.YtcoddeemfdnjpaaDoor.Fn
open Go.RowKit Go.Proofs.YtcoddeemfdnjpaaDoorW.PrintWords Go.Proofs.YtcoddeemfdnjpaaDoorW.PrintLast Go.Proofs.YtcoddeemfdnjpaaDoorW.PrintMore
attribute [local go_sem] max2_int min2_int max_two min_two max_three min_three max_four min_four   -- for this text's walks alone
set_option linter.unusedVariables false
set_option linter.unusedSimpArgs false

/-! ### rollbookref13_Dropped: function 99 -/
def rollbookref13_Dropped.f (a0 : Int) : Option (Bool) := if a0 ≤ 8 then (some true) else (if a0 ≥ 14 then (if a0 ≤ 31 then (some true) else (if a0 ≥ 127 then (if a0 ≤ 132 then (some true) else (if a0 ≥ 134 then (if a0 ≤ 159 then (some true) else (if a0 = 173 then (some true) else (if a0 ≥ 8203 then (if a0 ≤ 8207 then (some true) else (some (a0 == 65279))) else (some (a0 == 65279))))) else (if a0 = 173 then (some true) else (if a0 ≥ 8203 then (if a0 ≤ 8207 then (some true) else (some (a0 == 65279))) else (some (a0 == 65279)))))) else (if a0 ≥ 134 then (if a0 ≤ 159 then (some true) else (if a0 = 173 then (some true) else (if a0 ≥ 8203 then (if a0 ≤ 8207 then (some true) else (some (a0 == 65279))) else (some (a0 == 65279))))) else (if a0 = 173 then (some true) else (if a0 ≥ 8203 then (if a0 ≤ 8207 then (some true) else (some (a0 == 65279))) else (some (a0 == 65279))))))) else (if a0 ≥ 127 then (if a0 ≤ 132 then (some true) else (if a0 ≥ 134 then (if a0 ≤ 159 then (some true) else (if a0 = 173 then (some true) else (if a0 ≥ 8203 then (if a0 ≤ 8207 then (some true) else (some (a0 == 65279))) else (some (a0 == 65279))))) else (if a0 = 173 then (some true) else (if a0 ≥ 8203 then (if a0 ≤ 8207 then (some true) else (some (a0 == 65279))) else (some (a0 == 65279)))))) else (if a0 ≥ 134 then (if a0 ≤ 159 then (some true) else (if a0 = 173 then (some true) else (if a0 ≥ 8203 then (if a0 ≤ 8207 then (some true) else (some (a0 == 65279))) else (some (a0 == 65279))))) else (if a0 = 173 then (some true) else (if a0 ≥ 8203 then (if a0 ≤ 8207 then (some true) else (some (a0 == 65279))) else (some (a0 == 65279)))))))
set_option maxHeartbeats 8000000 in
set_option maxRecDepth 100000 in
theorem rollbookref13_Dropped.calls (a0 : Int) (r : Bool) (w : World) (h : rollbookref13_Dropped.f a0 = some r) :
    Calls Tryd.prog 99 #[.int .i32 a0] w fun e w' => e = .returned (.bool r) ∧ Drawn0 w w' := by
  have H : (if a0 ≤ 8 then (some true) else (if a0 ≥ 14 then (if a0 ≤ 31 then (some true) else (if a0 ≥ 127 then (if a0 ≤ 132 then (some true) else (if a0 ≥ 134 then (if a0 ≤ 159 then (some true) else (if a0 = 173 then (some true) else (if a0 ≥ 8203 then (if a0 ≤ 8207 then (some true) else (some (a0 == 65279))) else (some (a0 == 65279))))) else (if a0 = 173 then (some true) else (if a0 ≥ 8203 then (if a0 ≤ 8207 then (some true) else (some (a0 == 65279))) else (some (a0 == 65279)))))) else (if a0 ≥ 134 then (if a0 ≤ 159 then (some true) else (if a0 = 173 then (some true) else (if a0 ≥ 8203 then (if a0 ≤ 8207 then (some true) else (some (a0 == 65279))) else (some (a0 == 65279))))) else (if a0 = 173 then (some true) else (if a0 ≥ 8203 then (if a0 ≤ 8207 then (some true) else (some (a0 == 65279))) else (some (a0 == 65279))))))) else (if a0 ≥ 127 then (if a0 ≤ 132 then (some true) else (if a0 ≥ 134 then (if a0 ≤ 159 then (some true) else (if a0 = 173 then (some true) else (if a0 ≥ 8203 then (if a0 ≤ 8207 then (some true) else (some (a0 == 65279))) else (some (a0 == 65279))))) else (if a0 = 173 then (some true) else (if a0 ≥ 8203 then (if a0 ≤ 8207 then (some true) else (some (a0 == 65279))) else (some (a0 == 65279)))))) else (if a0 ≥ 134 then (if a0 ≤ 159 then (some true) else (if a0 = 173 then (some true) else (if a0 ≥ 8203 then (if a0 ≤ 8207 then (some true) else (some (a0 == 65279))) else (some (a0 == 65279))))) else (if a0 = 173 then (some true) else (if a0 ≥ 8203 then (if a0 ≤ 8207 then (some true) else (some (a0 == 65279))) else (some (a0 == 65279)))))))) = some r := h
  clear h
  by_cases c2 : a0 ≤ 8
  · rw [if_pos c2] at H
    have c2b0 : decide (a0 ≤ 8) = true := decide_eq_true c2
    clear c2
    obtain rfl := Option.some.inj H
    go_enter Tryd.func99, Tryd.ntmps99
    go_wp2
    go_ret
    exact ⟨by first | rfl | (simp; done) | (simp [*]; done), by repeat (first | exact Drawn0.refl _ | apply Drawn0.step)⟩
  · rw [if_neg c2] at H
    have c2b0 : decide (a0 ≤ 8) = false := decide_eq_false c2
    clear c2
    by_cases c3 : a0 ≥ 14
    · rw [if_pos c3] at H
      have c3b0 : decide (14 ≤ a0) = true := decide_eq_true c3
      clear c3
      by_cases c4 : a0 ≤ 31
      · rw [if_pos c4] at H
        have c4b0 : decide (a0 ≤ 31) = true := decide_eq_true c4
        clear c4
        obtain rfl := Option.some.inj H
        go_enter Tryd.func99, Tryd.ntmps99
        go_wp2
        go_ret
        exact ⟨by first | rfl | (simp; done) | (simp [*]; done), by repeat (first | exact Drawn0.refl _ | apply Drawn0.step)⟩
      · rw [if_neg c4] at H
        have c4b0 : decide (a0 ≤ 31) = false := decide_eq_false c4
        clear c4
        by_cases c5 : a0 ≥ 127
        · rw [if_pos c5] at H
          have c5b0 : decide (127 ≤ a0) = true := decide_eq_true c5
          clear c5
          by_cases c6 : a0 ≤ 132
          · rw [if_pos c6] at H
            have c6b0 : decide (a0 ≤ 132) = true := decide_eq_true c6
            clear c6
            obtain rfl := Option.some.inj H
            go_enter Tryd.func99, Tryd.ntmps99
            go_wp2
            go_ret
            exact ⟨by first | rfl | (simp; done) | (simp [*]; done), by repeat (first | exact Drawn0.refl _ | apply Drawn0.step)⟩
          · rw [if_neg c6] at H
            have c6b0 : decide (a0 ≤ 132) = false := decide_eq_false c6
            clear c6
            by_cases c7 : a0 ≥ 134
            · rw [if_pos c7] at H
              have c7b0 : decide (134 ≤ a0) = true := decide_eq_true c7
              clear c7
              by_cases c8 : a0 ≤ 159
              · rw [if_pos c8] at H
                have c8b0 : decide (a0 ≤ 159) = true := decide_eq_true c8
                clear c8
                obtain rfl := Option.some.inj H
                go_enter Tryd.func99, Tryd.ntmps99
                go_wp2
                go_ret
                exact ⟨by first | rfl | (simp; done) | (simp [*]; done), by repeat (first | exact Drawn0.refl _ | apply Drawn0.step)⟩
              · rw [if_neg c8] at H
                have c8b0 : decide (a0 ≤ 159) = false := decide_eq_false c8
                clear c8
                by_cases c9 : a0 = 173
                · rw [if_pos c9] at H
                  have c9b0 : (a0 == 173) = true := beq_iff_eq.mpr c9
                  have c9b1 : (a0 != 173) = false := bne_eq_false_iff_eq.mpr c9
                  clear c9
                  obtain rfl := Option.some.inj H
                  go_enter Tryd.func99, Tryd.ntmps99
                  go_wp2
                  go_ret
                  exact ⟨by first | rfl | (simp; done) | (simp [*]; done), by repeat (first | exact Drawn0.refl _ | apply Drawn0.step)⟩
                · rw [if_neg c9] at H
                  have c9b0 : (a0 == 173) = false := beq_eq_false_iff_ne.mpr c9
                  have c9b1 : (a0 != 173) = true := bne_iff_ne.mpr c9
                  by_cases c10 : a0 ≥ 8203
                  · rw [if_pos c10] at H
                    have c10b0 : decide (8203 ≤ a0) = true := decide_eq_true c10
                    clear c10
                    by_cases c11 : a0 ≤ 8207
                    · rw [if_pos c11] at H
                      have c11b0 : decide (a0 ≤ 8207) = true := decide_eq_true c11
                      clear c11
                      obtain rfl := Option.some.inj H
                      go_enter Tryd.func99, Tryd.ntmps99
                      go_wp2
                      go_ret
                      exact ⟨by first | rfl | (simp; done) | (simp [*]; done), by repeat (first | exact Drawn0.refl _ | apply Drawn0.step)⟩
                    · rw [if_neg c11] at H
                      have c11b0 : decide (a0 ≤ 8207) = false := decide_eq_false c11
                      clear c11
                      obtain rfl := Option.some.inj H
                      go_enter Tryd.func99, Tryd.ntmps99
                      go_wp2
                      go_ret
                      exact ⟨by first | rfl | (simp; done) | (simp [*]; done), by repeat (first | exact Drawn0.refl _ | apply Drawn0.step)⟩
                  · rw [if_neg c10] at H
                    have c10b0 : decide (8203 ≤ a0) = false := decide_eq_false c10
                    clear c10
                    obtain rfl := Option.some.inj H
                    go_enter Tryd.func99, Tryd.ntmps99
                    go_wp2
                    go_ret
                    exact ⟨by first | rfl | (simp; done) | (simp [*]; done), by repeat (first | exact Drawn0.refl _ | apply Drawn0.step)⟩
            · rw [if_neg c7] at H
              have c7b0 : decide (134 ≤ a0) = false := decide_eq_false c7
              clear c7
              by_cases c12 : a0 = 173
              · rw [if_pos c12] at H
                have c12b0 : (a0 == 173) = true := beq_iff_eq.mpr c12
                have c12b1 : (a0 != 173) = false := bne_eq_false_iff_eq.mpr c12
                clear c12
                obtain rfl := Option.some.inj H
                go_enter Tryd.func99, Tryd.ntmps99
                go_wp2
                go_ret
                exact ⟨by first | rfl | (simp; done) | (simp [*]; done), by repeat (first | exact Drawn0.refl _ | apply Drawn0.step)⟩
              · rw [if_neg c12] at H
                have c12b0 : (a0 == 173) = false := beq_eq_false_iff_ne.mpr c12
                have c12b1 : (a0 != 173) = true := bne_iff_ne.mpr c12
                by_cases c13 : a0 ≥ 8203
                · rw [if_pos c13] at H
                  have c13b0 : decide (8203 ≤ a0) = true := decide_eq_true c13
                  clear c13
                  by_cases c14 : a0 ≤ 8207
                  · rw [if_pos c14] at H
                    have c14b0 : decide (a0 ≤ 8207) = true := decide_eq_true c14
                    clear c14
                    obtain rfl := Option.some.inj H
                    go_enter Tryd.func99, Tryd.ntmps99
                    go_wp2
                    go_ret
                    exact ⟨by first | rfl | (simp; done) | (simp [*]; done), by repeat (first | exact Drawn0.refl _ | apply Drawn0.step)⟩
                  · rw [if_neg c14] at H
                    have c14b0 : decide (a0 ≤ 8207) = false := decide_eq_false c14
                    clear c14
                    obtain rfl := Option.some.inj H
                    go_enter Tryd.func99, Tryd.ntmps99
                    go_wp2
                    go_ret
                    exact ⟨by first | rfl | (simp; done) | (simp [*]; done), by repeat (first | exact Drawn0.refl _ | apply Drawn0.step)⟩
                · rw [if_neg c13] at H
                  have c13b0 : decide (8203 ≤ a0) = false := decide_eq_false c13
                  clear c13
                  obtain rfl := Option.some.inj H
                  go_enter Tryd.func99, Tryd.ntmps99
                  go_wp2
                  go_ret
                  exact ⟨by first | rfl | (simp; done) | (simp [*]; done), by repeat (first | exact Drawn0.refl _ | apply Drawn0.step)⟩
        · rw [if_neg c5] at H
          have c5b0 : decide (127 ≤ a0) = false := decide_eq_false c5
          clear c5
          by_cases c15 : a0 ≥ 134
          · rw [if_pos c15] at H
            have c15b0 : decide (134 ≤ a0) = true := decide_eq_true c15
            clear c15
            by_cases c16 : a0 ≤ 159
            · rw [if_pos c16] at H
              have c16b0 : decide (a0 ≤ 159) = true := decide_eq_true c16
              clear c16
              obtain rfl := Option.some.inj H
              go_enter Tryd.func99, Tryd.ntmps99
              go_wp2
              go_ret
              exact ⟨by first | rfl | (simp; done) | (simp [*]; done), by repeat (first | exact Drawn0.refl _ | apply Drawn0.step)⟩
            · rw [if_neg c16] at H
              have c16b0 : decide (a0 ≤ 159) = false := decide_eq_false c16
              clear c16
              by_cases c17 : a0 = 173
              · rw [if_pos c17] at H
                have c17b0 : (a0 == 173) = true := beq_iff_eq.mpr c17
                have c17b1 : (a0 != 173) = false := bne_eq_false_iff_eq.mpr c17
                clear c17
                obtain rfl := Option.some.inj H
                go_enter Tryd.func99, Tryd.ntmps99
                go_wp2
                go_ret
                exact ⟨by first | rfl | (simp; done) | (simp [*]; done), by repeat (first | exact Drawn0.refl _ | apply Drawn0.step)⟩
              · rw [if_neg c17] at H
                have c17b0 : (a0 == 173) = false := beq_eq_false_iff_ne.mpr c17
                have c17b1 : (a0 != 173) = true := bne_iff_ne.mpr c17
                by_cases c18 : a0 ≥ 8203
                · rw [if_pos c18] at H
                  have c18b0 : decide (8203 ≤ a0) = true := decide_eq_true c18
                  clear c18
                  by_cases c19 : a0 ≤ 8207
                  · rw [if_pos c19] at H
                    have c19b0 : decide (a0 ≤ 8207) = true := decide_eq_true c19
                    clear c19
                    obtain rfl := Option.some.inj H
                    go_enter Tryd.func99, Tryd.ntmps99
                    go_wp2
                    go_ret
                    exact ⟨by first | rfl | (simp; done) | (simp [*]; done), by repeat (first | exact Drawn0.refl _ | apply Drawn0.step)⟩
                  · rw [if_neg c19] at H
                    have c19b0 : decide (a0 ≤ 8207) = false := decide_eq_false c19
                    clear c19
                    obtain rfl := Option.some.inj H
                    go_enter Tryd.func99, Tryd.ntmps99
                    go_wp2
                    go_ret
                    exact ⟨by first | rfl | (simp; done) | (simp [*]; done), by repeat (first | exact Drawn0.refl _ | apply Drawn0.step)⟩
                · rw [if_neg c18] at H
                  have c18b0 : decide (8203 ≤ a0) = false := decide_eq_false c18
                  clear c18
                  obtain rfl := Option.some.inj H
                  go_enter Tryd.func99, Tryd.ntmps99
                  go_wp2
                  go_ret
                  exact ⟨by first | rfl | (simp; done) | (simp [*]; done), by repeat (first | exact Drawn0.refl _ | apply Drawn0.step)⟩
          · rw [if_neg c15] at H
            have c15b0 : decide (134 ≤ a0) = false := decide_eq_false c15
            clear c15
            by_cases c20 : a0 = 173
            · rw [if_pos c20] at H
              have c20b0 : (a0 == 173) = true := beq_iff_eq.mpr c20
              have c20b1 : (a0 != 173) = false := bne_eq_false_iff_eq.mpr c20
              clear c20
              obtain rfl := Option.some.inj H
              go_enter Tryd.func99, Tryd.ntmps99
              go_wp2
              go_ret
              exact ⟨by first | rfl | (simp; done) | (simp [*]; done), by repeat (first | exact Drawn0.refl _ | apply Drawn0.step)⟩
            · rw [if_neg c20] at H
              have c20b0 : (a0 == 173) = false := beq_eq_false_iff_ne.mpr c20
              have c20b1 : (a0 != 173) = true := bne_iff_ne.mpr c20
              by_cases c21 : a0 ≥ 8203
              · rw [if_pos c21] at H
                have c21b0 : decide (8203 ≤ a0) = true := decide_eq_true c21
                clear c21
                by_cases c22 : a0 ≤ 8207
                · rw [if_pos c22] at H
                  have c22b0 : decide (a0 ≤ 8207) = true := decide_eq_true c22
                  clear c22
                  obtain rfl := Option.some.inj H
                  go_enter Tryd.func99, Tryd.ntmps99
                  go_wp2
                  go_ret
                  exact ⟨by first | rfl | (simp; done) | (simp [*]; done), by repeat (first | exact Drawn0.refl _ | apply Drawn0.step)⟩
                · rw [if_neg c22] at H
                  have c22b0 : decide (a0 ≤ 8207) = false := decide_eq_false c22
                  clear c22
                  obtain rfl := Option.some.inj H
                  go_enter Tryd.func99, Tryd.ntmps99
                  go_wp2
                  go_ret
                  exact ⟨by first | rfl | (simp; done) | (simp [*]; done), by repeat (first | exact Drawn0.refl _ | apply Drawn0.step)⟩
              · rw [if_neg c21] at H
                have c21b0 : decide (8203 ≤ a0) = false := decide_eq_false c21
                clear c21
                obtain rfl := Option.some.inj H
                go_enter Tryd.func99, Tryd.ntmps99
                go_wp2
                go_ret
                exact ⟨by first | rfl | (simp; done) | (simp [*]; done), by repeat (first | exact Drawn0.refl _ | apply Drawn0.step)⟩
    · rw [if_neg c3] at H
      have c3b0 : decide (14 ≤ a0) = false := decide_eq_false c3
      clear c3
      by_cases c23 : a0 ≥ 127
      · rw [if_pos c23] at H
        have c23b0 : decide (127 ≤ a0) = true := decide_eq_true c23
        clear c23
        by_cases c24 : a0 ≤ 132
        · rw [if_pos c24] at H
          have c24b0 : decide (a0 ≤ 132) = true := decide_eq_true c24
          clear c24
          obtain rfl := Option.some.inj H
          go_enter Tryd.func99, Tryd.ntmps99
          go_wp2
          go_ret
          exact ⟨by first | rfl | (simp; done) | (simp [*]; done), by repeat (first | exact Drawn0.refl _ | apply Drawn0.step)⟩
        · rw [if_neg c24] at H
          have c24b0 : decide (a0 ≤ 132) = false := decide_eq_false c24
          clear c24
          by_cases c25 : a0 ≥ 134
          · rw [if_pos c25] at H
            have c25b0 : decide (134 ≤ a0) = true := decide_eq_true c25
            clear c25
            by_cases c26 : a0 ≤ 159
            · rw [if_pos c26] at H
              have c26b0 : decide (a0 ≤ 159) = true := decide_eq_true c26
              clear c26
              obtain rfl := Option.some.inj H
              go_enter Tryd.func99, Tryd.ntmps99
              go_wp2
              go_ret
              exact ⟨by first | rfl | (simp; done) | (simp [*]; done), by repeat (first | exact Drawn0.refl _ | apply Drawn0.step)⟩
            · rw [if_neg c26] at H
              have c26b0 : decide (a0 ≤ 159) = false := decide_eq_false c26
              clear c26
              by_cases c27 : a0 = 173
              · rw [if_pos c27] at H
                have c27b0 : (a0 == 173) = true := beq_iff_eq.mpr c27
                have c27b1 : (a0 != 173) = false := bne_eq_false_iff_eq.mpr c27
                clear c27
                obtain rfl := Option.some.inj H
                go_enter Tryd.func99, Tryd.ntmps99
                go_wp2
                go_ret
                exact ⟨by first | rfl | (simp; done) | (simp [*]; done), by repeat (first | exact Drawn0.refl _ | apply Drawn0.step)⟩
              · rw [if_neg c27] at H
                have c27b0 : (a0 == 173) = false := beq_eq_false_iff_ne.mpr c27
                have c27b1 : (a0 != 173) = true := bne_iff_ne.mpr c27
                by_cases c28 : a0 ≥ 8203
                · rw [if_pos c28] at H
                  have c28b0 : decide (8203 ≤ a0) = true := decide_eq_true c28
                  clear c28
                  by_cases c29 : a0 ≤ 8207
                  · rw [if_pos c29] at H
                    have c29b0 : decide (a0 ≤ 8207) = true := decide_eq_true c29
                    clear c29
                    obtain rfl := Option.some.inj H
                    go_enter Tryd.func99, Tryd.ntmps99
                    go_wp2
                    go_ret
                    exact ⟨by first | rfl | (simp; done) | (simp [*]; done), by repeat (first | exact Drawn0.refl _ | apply Drawn0.step)⟩
                  · rw [if_neg c29] at H
                    have c29b0 : decide (a0 ≤ 8207) = false := decide_eq_false c29
                    clear c29
                    obtain rfl := Option.some.inj H
                    go_enter Tryd.func99, Tryd.ntmps99
                    go_wp2
                    go_ret
                    exact ⟨by first | rfl | (simp; done) | (simp [*]; done), by repeat (first | exact Drawn0.refl _ | apply Drawn0.step)⟩
                · rw [if_neg c28] at H
                  have c28b0 : decide (8203 ≤ a0) = false := decide_eq_false c28
                  clear c28
                  obtain rfl := Option.some.inj H
                  go_enter Tryd.func99, Tryd.ntmps99
                  go_wp2
                  go_ret
                  exact ⟨by first | rfl | (simp; done) | (simp [*]; done), by repeat (first | exact Drawn0.refl _ | apply Drawn0.step)⟩
          · rw [if_neg c25] at H
            have c25b0 : decide (134 ≤ a0) = false := decide_eq_false c25
            clear c25
            by_cases c30 : a0 = 173
            · rw [if_pos c30] at H
              have c30b0 : (a0 == 173) = true := beq_iff_eq.mpr c30
              have c30b1 : (a0 != 173) = false := bne_eq_false_iff_eq.mpr c30
              clear c30
              obtain rfl := Option.some.inj H
              go_enter Tryd.func99, Tryd.ntmps99
              go_wp2
              go_ret
              exact ⟨by first | rfl | (simp; done) | (simp [*]; done), by repeat (first | exact Drawn0.refl _ | apply Drawn0.step)⟩
            · rw [if_neg c30] at H
              have c30b0 : (a0 == 173) = false := beq_eq_false_iff_ne.mpr c30
              have c30b1 : (a0 != 173) = true := bne_iff_ne.mpr c30
              by_cases c31 : a0 ≥ 8203
              · rw [if_pos c31] at H
                have c31b0 : decide (8203 ≤ a0) = true := decide_eq_true c31
                clear c31
                by_cases c32 : a0 ≤ 8207
                · rw [if_pos c32] at H
                  have c32b0 : decide (a0 ≤ 8207) = true := decide_eq_true c32
                  clear c32
                  obtain rfl := Option.some.inj H
                  go_enter Tryd.func99, Tryd.ntmps99
                  go_wp2
                  go_ret
                  exact ⟨by first | rfl | (simp; done) | (simp [*]; done), by repeat (first | exact Drawn0.refl _ | apply Drawn0.step)⟩
                · rw [if_neg c32] at H
                  have c32b0 : decide (a0 ≤ 8207) = false := decide_eq_false c32
                  clear c32
                  obtain rfl := Option.some.inj H
                  go_enter Tryd.func99, Tryd.ntmps99
                  go_wp2
                  go_ret
                  exact ⟨by first | rfl | (simp; done) | (simp [*]; done), by repeat (first | exact Drawn0.refl _ | apply Drawn0.step)⟩
              · rw [if_neg c31] at H
                have c31b0 : decide (8203 ≤ a0) = false := decide_eq_false c31
                clear c31
                obtain rfl := Option.some.inj H
                go_enter Tryd.func99, Tryd.ntmps99
                go_wp2
                go_ret
                exact ⟨by first | rfl | (simp; done) | (simp [*]; done), by repeat (first | exact Drawn0.refl _ | apply Drawn0.step)⟩
      · rw [if_neg c23] at H
        have c23b0 : decide (127 ≤ a0) = false := decide_eq_false c23
        clear c23
        by_cases c33 : a0 ≥ 134
        · rw [if_pos c33] at H
          have c33b0 : decide (134 ≤ a0) = true := decide_eq_true c33
          clear c33
          by_cases c34 : a0 ≤ 159
          · rw [if_pos c34] at H
            have c34b0 : decide (a0 ≤ 159) = true := decide_eq_true c34
            clear c34
            obtain rfl := Option.some.inj H
            go_enter Tryd.func99, Tryd.ntmps99
            go_wp2
            go_ret
            exact ⟨by first | rfl | (simp; done) | (simp [*]; done), by repeat (first | exact Drawn0.refl _ | apply Drawn0.step)⟩
          · rw [if_neg c34] at H
            have c34b0 : decide (a0 ≤ 159) = false := decide_eq_false c34
            clear c34
            by_cases c35 : a0 = 173
            · rw [if_pos c35] at H
              have c35b0 : (a0 == 173) = true := beq_iff_eq.mpr c35
              have c35b1 : (a0 != 173) = false := bne_eq_false_iff_eq.mpr c35
              clear c35
              obtain rfl := Option.some.inj H
              go_enter Tryd.func99, Tryd.ntmps99
              go_wp2
              go_ret
              exact ⟨by first | rfl | (simp; done) | (simp [*]; done), by repeat (first | exact Drawn0.refl _ | apply Drawn0.step)⟩
            · rw [if_neg c35] at H
              have c35b0 : (a0 == 173) = false := beq_eq_false_iff_ne.mpr c35
              have c35b1 : (a0 != 173) = true := bne_iff_ne.mpr c35
              by_cases c36 : a0 ≥ 8203
              · rw [if_pos c36] at H
                have c36b0 : decide (8203 ≤ a0) = true := decide_eq_true c36
                clear c36
                by_cases c37 : a0 ≤ 8207
                · rw [if_pos c37] at H
                  have c37b0 : decide (a0 ≤ 8207) = true := decide_eq_true c37
                  clear c37
                  obtain rfl := Option.some.inj H
                  go_enter Tryd.func99, Tryd.ntmps99
                  go_wp2
                  go_ret
                  exact ⟨by first | rfl | (simp; done) | (simp [*]; done), by repeat (first | exact Drawn0.refl _ | apply Drawn0.step)⟩
                · rw [if_neg c37] at H
                  have c37b0 : decide (a0 ≤ 8207) = false := decide_eq_false c37
                  clear c37
                  obtain rfl := Option.some.inj H
                  go_enter Tryd.func99, Tryd.ntmps99
                  go_wp2
                  go_ret
                  exact ⟨by first | rfl | (simp; done) | (simp [*]; done), by repeat (first | exact Drawn0.refl _ | apply Drawn0.step)⟩
              · rw [if_neg c36] at H
                have c36b0 : decide (8203 ≤ a0) = false := decide_eq_false c36
                clear c36
                obtain rfl := Option.some.inj H
                go_enter Tryd.func99, Tryd.ntmps99
                go_wp2
                go_ret
                exact ⟨by first | rfl | (simp; done) | (simp [*]; done), by repeat (first | exact Drawn0.refl _ | apply Drawn0.step)⟩
        · rw [if_neg c33] at H
          have c33b0 : decide (134 ≤ a0) = false := decide_eq_false c33
          clear c33
          by_cases c38 : a0 = 173
          · rw [if_pos c38] at H
            have c38b0 : (a0 == 173) = true := beq_iff_eq.mpr c38
            have c38b1 : (a0 != 173) = false := bne_eq_false_iff_eq.mpr c38
            clear c38
            obtain rfl := Option.some.inj H
            go_enter Tryd.func99, Tryd.ntmps99
            go_wp2
            go_ret
            exact ⟨by first | rfl | (simp; done) | (simp [*]; done), by repeat (first | exact Drawn0.refl _ | apply Drawn0.step)⟩
          · rw [if_neg c38] at H
            have c38b0 : (a0 == 173) = false := beq_eq_false_iff_ne.mpr c38
            have c38b1 : (a0 != 173) = true := bne_iff_ne.mpr c38
            by_cases c39 : a0 ≥ 8203
            · rw [if_pos c39] at H
              have c39b0 : decide (8203 ≤ a0) = true := decide_eq_true c39
              clear c39
              by_cases c40 : a0 ≤ 8207
              · rw [if_pos c40] at H
                have c40b0 : decide (a0 ≤ 8207) = true := decide_eq_true c40
                clear c40
                obtain rfl := Option.some.inj H
                go_enter Tryd.func99, Tryd.ntmps99
                go_wp2
                go_ret
                exact ⟨by first | rfl | (simp; done) | (simp [*]; done), by repeat (first | exact Drawn0.refl _ | apply Drawn0.step)⟩
              · rw [if_neg c40] at H
                have c40b0 : decide (a0 ≤ 8207) = false := decide_eq_false c40
                clear c40
                obtain rfl := Option.some.inj H
                go_enter Tryd.func99, Tryd.ntmps99
                go_wp2
                go_ret
                exact ⟨by first | rfl | (simp; done) | (simp [*]; done), by repeat (first | exact Drawn0.refl _ | apply Drawn0.step)⟩
            · rw [if_neg c39] at H
              have c39b0 : decide (8203 ≤ a0) = false := decide_eq_false c39
              clear c39
              obtain rfl := Option.some.inj H
              go_enter Tryd.func99, Tryd.ntmps99
              go_wp2
              go_ret
              exact ⟨by first | rfl | (simp; done) | (simp [*]; done), by repeat (first | exact Drawn0.refl _ | apply Drawn0.step)⟩

end Go.Proofs.YtcoddeemfdnjpaaDoor.Fn
namespace Go.Proofs.YtcoddeemfdnjpaaDoor.Fn
open Go.RowKit Go.Proofs.YtcoddeemfdnjpaaDoorW.PrintWords Go.Proofs.YtcoddeemfdnjpaaDoorW.PrintLast Go.Proofs.YtcoddeemfdnjpaaDoorW.PrintMore
attribute [local go_sem] max2_int min2_int max_two min_two max_three min_three max_four min_four   -- for this text's walks alone
set_option linter.unusedVariables false
set_option linter.unusedSimpArgs false

/-! ### rollbookref13_Blank: function 100 -/
def rollbookref13_Blank.f (a0 : Int) : Option (Bool) := if a0 ≥ 9 then (if a0 ≤ 13 then (some true) else (if a0 = 32 then (some true) else (if a0 = 133 then (some true) else (if a0 = 160 then (some true) else (if a0 = 5760 then (some true) else (if a0 ≥ 8192 then (if a0 ≤ 8202 then (some true) else (if a0 = 8232 then (some true) else (if a0 = 8233 then (some true) else (if a0 = 8239 then (some true) else (if a0 = 8287 then (some true) else (some (a0 == 12288))))))) else (if a0 = 8232 then (some true) else (if a0 = 8233 then (some true) else (if a0 = 8239 then (some true) else (if a0 = 8287 then (some true) else (some (a0 == 12288)))))))))))) else (if a0 = 32 then (some true) else (if a0 = 133 then (some true) else (if a0 = 160 then (some true) else (if a0 = 5760 then (some true) else (if a0 ≥ 8192 then (if a0 ≤ 8202 then (some true) else (if a0 = 8232 then (some true) else (if a0 = 8233 then (some true) else (if a0 = 8239 then (some true) else (if a0 = 8287 then (some true) else (some (a0 == 12288))))))) else (if a0 = 8232 then (some true) else (if a0 = 8233 then (some true) else (if a0 = 8239 then (some true) else (if a0 = 8287 then (some true) else (some (a0 == 12288)))))))))))
set_option maxHeartbeats 8000000 in
set_option maxRecDepth 100000 in
theorem rollbookref13_Blank.calls (a0 : Int) (r : Bool) (w : World) (h : rollbookref13_Blank.f a0 = some r) :
    Calls Tryd.prog 100 #[.int .i32 a0] w fun e w' => e = .returned (.bool r) ∧ Drawn0 w w' := by
  have H : (if a0 ≥ 9 then (if a0 ≤ 13 then (some true) else (if a0 = 32 then (some true) else (if a0 = 133 then (some true) else (if a0 = 160 then (some true) else (if a0 = 5760 then (some true) else (if a0 ≥ 8192 then (if a0 ≤ 8202 then (some true) else (if a0 = 8232 then (some true) else (if a0 = 8233 then (some true) else (if a0 = 8239 then (some true) else (if a0 = 8287 then (some true) else (some (a0 == 12288))))))) else (if a0 = 8232 then (some true) else (if a0 = 8233 then (some true) else (if a0 = 8239 then (some true) else (if a0 = 8287 then (some true) else (some (a0 == 12288)))))))))))) else (if a0 = 32 then (some true) else (if a0 = 133 then (some true) else (if a0 = 160 then (some true) else (if a0 = 5760 then (some true) else (if a0 ≥ 8192 then (if a0 ≤ 8202 then (some true) else (if a0 = 8232 then (some true) else (if a0 = 8233 then (some true) else (if a0 = 8239 then (some true) else (if a0 = 8287 then (some true) else (some (a0 == 12288))))))) else (if a0 = 8232 then (some true) else (if a0 = 8233 then (some true) else (if a0 = 8239 then (some true) else (if a0 = 8287 then (some true) else (some (a0 == 12288)))))))))))) = some r := h
  clear h
  by_cases c2 : a0 ≥ 9
  · rw [if_pos c2] at H
    have c2b0 : decide (9 ≤ a0) = true := decide_eq_true c2
    clear c2
    by_cases c3 : a0 ≤ 13
    · rw [if_pos c3] at H
      have c3b0 : decide (a0 ≤ 13) = true := decide_eq_true c3
      clear c3
      obtain rfl := Option.some.inj H
      go_enter Tryd.func100, Tryd.ntmps100
      go_wp2
      go_ret
      exact ⟨by first | rfl | (simp; done) | (simp [*]; done), by repeat (first | exact Drawn0.refl _ | apply Drawn0.step)⟩
    · rw [if_neg c3] at H
      have c3b0 : decide (a0 ≤ 13) = false := decide_eq_false c3
      clear c3
      by_cases c4 : a0 = 32
      · rw [if_pos c4] at H
        have c4b0 : (a0 == 32) = true := beq_iff_eq.mpr c4
        have c4b1 : (a0 != 32) = false := bne_eq_false_iff_eq.mpr c4
        clear c4
        obtain rfl := Option.some.inj H
        go_enter Tryd.func100, Tryd.ntmps100
        go_wp2
        go_ret
        exact ⟨by first | rfl | (simp; done) | (simp [*]; done), by repeat (first | exact Drawn0.refl _ | apply Drawn0.step)⟩
      · rw [if_neg c4] at H
        have c4b0 : (a0 == 32) = false := beq_eq_false_iff_ne.mpr c4
        have c4b1 : (a0 != 32) = true := bne_iff_ne.mpr c4
        by_cases c5 : a0 = 133
        · rw [if_pos c5] at H
          have c5b0 : (a0 == 133) = true := beq_iff_eq.mpr c5
          have c5b1 : (a0 != 133) = false := bne_eq_false_iff_eq.mpr c5
          clear c5
          obtain rfl := Option.some.inj H
          go_enter Tryd.func100, Tryd.ntmps100
          go_wp2
          go_ret
          exact ⟨by first | rfl | (simp; done) | (simp [*]; done), by repeat (first | exact Drawn0.refl _ | apply Drawn0.step)⟩
        · rw [if_neg c5] at H
          have c5b0 : (a0 == 133) = false := beq_eq_false_iff_ne.mpr c5
          have c5b1 : (a0 != 133) = true := bne_iff_ne.mpr c5
          by_cases c6 : a0 = 160
          · rw [if_pos c6] at H
            have c6b0 : (a0 == 160) = true := beq_iff_eq.mpr c6
            have c6b1 : (a0 != 160) = false := bne_eq_false_iff_eq.mpr c6
            clear c6
            obtain rfl := Option.some.inj H
            go_enter Tryd.func100, Tryd.ntmps100
            go_wp2
            go_ret
            exact ⟨by first | rfl | (simp; done) | (simp [*]; done), by repeat (first | exact Drawn0.refl _ | apply Drawn0.step)⟩
          · rw [if_neg c6] at H
            have c6b0 : (a0 == 160) = false := beq_eq_false_iff_ne.mpr c6
            have c6b1 : (a0 != 160) = true := bne_iff_ne.mpr c6
            by_cases c7 : a0 = 5760
            · rw [if_pos c7] at H
              have c7b0 : (a0 == 5760) = true := beq_iff_eq.mpr c7
              have c7b1 : (a0 != 5760) = false := bne_eq_false_iff_eq.mpr c7
              clear c7
              obtain rfl := Option.some.inj H
              go_enter Tryd.func100, Tryd.ntmps100
              go_wp2
              go_ret
              exact ⟨by first | rfl | (simp; done) | (simp [*]; done), by repeat (first | exact Drawn0.refl _ | apply Drawn0.step)⟩
            · rw [if_neg c7] at H
              have c7b0 : (a0 == 5760) = false := beq_eq_false_iff_ne.mpr c7
              have c7b1 : (a0 != 5760) = true := bne_iff_ne.mpr c7
              by_cases c8 : a0 ≥ 8192
              · rw [if_pos c8] at H
                have c8b0 : decide (8192 ≤ a0) = true := decide_eq_true c8
                clear c8
                by_cases c9 : a0 ≤ 8202
                · rw [if_pos c9] at H
                  have c9b0 : decide (a0 ≤ 8202) = true := decide_eq_true c9
                  clear c9
                  obtain rfl := Option.some.inj H
                  go_enter Tryd.func100, Tryd.ntmps100
                  go_wp2
                  go_ret
                  exact ⟨by first | rfl | (simp; done) | (simp [*]; done), by repeat (first | exact Drawn0.refl _ | apply Drawn0.step)⟩
                · rw [if_neg c9] at H
                  have c9b0 : decide (a0 ≤ 8202) = false := decide_eq_false c9
                  clear c9
                  by_cases c10 : a0 = 8232
                  · rw [if_pos c10] at H
                    have c10b0 : (a0 == 8232) = true := beq_iff_eq.mpr c10
                    have c10b1 : (a0 != 8232) = false := bne_eq_false_iff_eq.mpr c10
                    clear c10
                    obtain rfl := Option.some.inj H
                    go_enter Tryd.func100, Tryd.ntmps100
                    go_wp2
                    go_ret
                    exact ⟨by first | rfl | (simp; done) | (simp [*]; done), by repeat (first | exact Drawn0.refl _ | apply Drawn0.step)⟩
                  · rw [if_neg c10] at H
                    have c10b0 : (a0 == 8232) = false := beq_eq_false_iff_ne.mpr c10
                    have c10b1 : (a0 != 8232) = true := bne_iff_ne.mpr c10
                    by_cases c11 : a0 = 8233
                    · rw [if_pos c11] at H
                      have c11b0 : (a0 == 8233) = true := beq_iff_eq.mpr c11
                      have c11b1 : (a0 != 8233) = false := bne_eq_false_iff_eq.mpr c11
                      clear c11
                      obtain rfl := Option.some.inj H
                      go_enter Tryd.func100, Tryd.ntmps100
                      go_wp2
                      go_ret
                      exact ⟨by first | rfl | (simp; done) | (simp [*]; done), by repeat (first | exact Drawn0.refl _ | apply Drawn0.step)⟩
                    · rw [if_neg c11] at H
                      have c11b0 : (a0 == 8233) = false := beq_eq_false_iff_ne.mpr c11
                      have c11b1 : (a0 != 8233) = true := bne_iff_ne.mpr c11
                      by_cases c12 : a0 = 8239
                      · rw [if_pos c12] at H
                        have c12b0 : (a0 == 8239) = true := beq_iff_eq.mpr c12
                        have c12b1 : (a0 != 8239) = false := bne_eq_false_iff_eq.mpr c12
                        clear c12
                        obtain rfl := Option.some.inj H
                        go_enter Tryd.func100, Tryd.ntmps100
                        go_wp2
                        go_ret
                        exact ⟨by first | rfl | (simp; done) | (simp [*]; done), by repeat (first | exact Drawn0.refl _ | apply Drawn0.step)⟩
                      · rw [if_neg c12] at H
                        have c12b0 : (a0 == 8239) = false := beq_eq_false_iff_ne.mpr c12
                        have c12b1 : (a0 != 8239) = true := bne_iff_ne.mpr c12
                        by_cases c13 : a0 = 8287
                        · rw [if_pos c13] at H
                          have c13b0 : (a0 == 8287) = true := beq_iff_eq.mpr c13
                          have c13b1 : (a0 != 8287) = false := bne_eq_false_iff_eq.mpr c13
                          clear c13
                          obtain rfl := Option.some.inj H
                          go_enter Tryd.func100, Tryd.ntmps100
                          go_wp2
                          go_ret
                          exact ⟨by first | rfl | (simp; done) | (simp [*]; done), by repeat (first | exact Drawn0.refl _ | apply Drawn0.step)⟩
                        · rw [if_neg c13] at H
                          have c13b0 : (a0 == 8287) = false := beq_eq_false_iff_ne.mpr c13
                          have c13b1 : (a0 != 8287) = true := bne_iff_ne.mpr c13
                          obtain rfl := Option.some.inj H
                          go_enter Tryd.func100, Tryd.ntmps100
                          go_wp2
                          go_ret
                          exact ⟨by first | rfl | (simp; done) | (simp [*]; done), by repeat (first | exact Drawn0.refl _ | apply Drawn0.step)⟩
              · rw [if_neg c8] at H
                have c8b0 : decide (8192 ≤ a0) = false := decide_eq_false c8
                clear c8
                by_cases c14 : a0 = 8232
                · rw [if_pos c14] at H
                  have c14b0 : (a0 == 8232) = true := beq_iff_eq.mpr c14
                  have c14b1 : (a0 != 8232) = false := bne_eq_false_iff_eq.mpr c14
                  clear c14
                  obtain rfl := Option.some.inj H
                  go_enter Tryd.func100, Tryd.ntmps100
                  go_wp2
                  go_ret
                  exact ⟨by first | rfl | (simp; done) | (simp [*]; done), by repeat (first | exact Drawn0.refl _ | apply Drawn0.step)⟩
                · rw [if_neg c14] at H
                  have c14b0 : (a0 == 8232) = false := beq_eq_false_iff_ne.mpr c14
                  have c14b1 : (a0 != 8232) = true := bne_iff_ne.mpr c14
                  by_cases c15 : a0 = 8233
                  · rw [if_pos c15] at H
                    have c15b0 : (a0 == 8233) = true := beq_iff_eq.mpr c15
                    have c15b1 : (a0 != 8233) = false := bne_eq_false_iff_eq.mpr c15
                    clear c15
                    obtain rfl := Option.some.inj H
                    go_enter Tryd.func100, Tryd.ntmps100
                    go_wp2
                    go_ret
                    exact ⟨by first | rfl | (simp; done) | (simp [*]; done), by repeat (first | exact Drawn0.refl _ | apply Drawn0.step)⟩
                  · rw [if_neg c15] at H
                    have c15b0 : (a0 == 8233) = false := beq_eq_false_iff_ne.mpr c15
                    have c15b1 : (a0 != 8233) = true := bne_iff_ne.mpr c15
                    by_cases c16 : a0 = 8239
                    · rw [if_pos c16] at H
                      have c16b0 : (a0 == 8239) = true := beq_iff_eq.mpr c16
                      have c16b1 : (a0 != 8239) = false := bne_eq_false_iff_eq.mpr c16
                      clear c16
                      obtain rfl := Option.some.inj H
                      go_enter Tryd.func100, Tryd.ntmps100
                      go_wp2
                      go_ret
                      exact ⟨by first | rfl | (simp; done) | (simp [*]; done), by repeat (first | exact Drawn0.refl _ | apply Drawn0.step)⟩
                    · rw [if_neg c16] at H
                      have c16b0 : (a0 == 8239) = false := beq_eq_false_iff_ne.mpr c16
                      have c16b1 : (a0 != 8239) = true := bne_iff_ne.mpr c16
                      by_cases c17 : a0 = 8287
                      · rw [if_pos c17] at H
                        have c17b0 : (a0 == 8287) = true := beq_iff_eq.mpr c17
                        have c17b1 : (a0 != 8287) = false := bne_eq_false_iff_eq.mpr c17
                        clear c17
                        obtain rfl := Option.some.inj H
                        go_enter Tryd.func100, Tryd.ntmps100
                        go_wp2
                        go_ret
                        exact ⟨by first | rfl | (simp; done) | (simp [*]; done), by repeat (first | exact Drawn0.refl _ | apply Drawn0.step)⟩
                      · rw [if_neg c17] at H
                        have c17b0 : (a0 == 8287) = false := beq_eq_false_iff_ne.mpr c17
                        have c17b1 : (a0 != 8287) = true := bne_iff_ne.mpr c17
                        obtain rfl := Option.some.inj H
                        go_enter Tryd.func100, Tryd.ntmps100
                        go_wp2
                        go_ret
                        exact ⟨by first | rfl | (simp; done) | (simp [*]; done), by repeat (first | exact Drawn0.refl _ | apply Drawn0.step)⟩
  · rw [if_neg c2] at H
    have c2b0 : decide (9 ≤ a0) = false := decide_eq_false c2
    clear c2
    by_cases c18 : a0 = 32
    · rw [if_pos c18] at H
      have c18b0 : (a0 == 32) = true := beq_iff_eq.mpr c18
      have c18b1 : (a0 != 32) = false := bne_eq_false_iff_eq.mpr c18
      clear c18
      obtain rfl := Option.some.inj H
      go_enter Tryd.func100, Tryd.ntmps100
      go_wp2
      go_ret
      exact ⟨by first | rfl | (simp; done) | (simp [*]; done), by repeat (first | exact Drawn0.refl _ | apply Drawn0.step)⟩
    · rw [if_neg c18] at H
      have c18b0 : (a0 == 32) = false := beq_eq_false_iff_ne.mpr c18
      have c18b1 : (a0 != 32) = true := bne_iff_ne.mpr c18
      by_cases c19 : a0 = 133
      · rw [if_pos c19] at H
        have c19b0 : (a0 == 133) = true := beq_iff_eq.mpr c19
        have c19b1 : (a0 != 133) = false := bne_eq_false_iff_eq.mpr c19
        clear c19
        obtain rfl := Option.some.inj H
        go_enter Tryd.func100, Tryd.ntmps100
        go_wp2
        go_ret
        exact ⟨by first | rfl | (simp; done) | (simp [*]; done), by repeat (first | exact Drawn0.refl _ | apply Drawn0.step)⟩
      · rw [if_neg c19] at H
        have c19b0 : (a0 == 133) = false := beq_eq_false_iff_ne.mpr c19
        have c19b1 : (a0 != 133) = true := bne_iff_ne.mpr c19
        by_cases c20 : a0 = 160
        · rw [if_pos c20] at H
          have c20b0 : (a0 == 160) = true := beq_iff_eq.mpr c20
          have c20b1 : (a0 != 160) = false := bne_eq_false_iff_eq.mpr c20
          clear c20
          obtain rfl := Option.some.inj H
          go_enter Tryd.func100, Tryd.ntmps100
          go_wp2
          go_ret
          exact ⟨by first | rfl | (simp; done) | (simp [*]; done), by repeat (first | exact Drawn0.refl _ | apply Drawn0.step)⟩
        · rw [if_neg c20] at H
          have c20b0 : (a0 == 160) = false := beq_eq_false_iff_ne.mpr c20
          have c20b1 : (a0 != 160) = true := bne_iff_ne.mpr c20
          by_cases c21 : a0 = 5760
          · rw [if_pos c21] at H
            have c21b0 : (a0 == 5760) = true := beq_iff_eq.mpr c21
            have c21b1 : (a0 != 5760) = false := bne_eq_false_iff_eq.mpr c21
            clear c21
            obtain rfl := Option.some.inj H
            go_enter Tryd.func100, Tryd.ntmps100
            go_wp2
            go_ret
            exact ⟨by first | rfl | (simp; done) | (simp [*]; done), by repeat (first | exact Drawn0.refl _ | apply Drawn0.step)⟩
          · rw [if_neg c21] at H
            have c21b0 : (a0 == 5760) = false := beq_eq_false_iff_ne.mpr c21
            have c21b1 : (a0 != 5760) = true := bne_iff_ne.mpr c21
            by_cases c22 : a0 ≥ 8192
            · rw [if_pos c22] at H
              have c22b0 : decide (8192 ≤ a0) = true := decide_eq_true c22
              clear c22
              by_cases c23 : a0 ≤ 8202
              · rw [if_pos c23] at H
                have c23b0 : decide (a0 ≤ 8202) = true := decide_eq_true c23
                clear c23
                obtain rfl := Option.some.inj H
                go_enter Tryd.func100, Tryd.ntmps100
                go_wp2
                go_ret
                exact ⟨by first | rfl | (simp; done) | (simp [*]; done), by repeat (first | exact Drawn0.refl _ | apply Drawn0.step)⟩
              · rw [if_neg c23] at H
                have c23b0 : decide (a0 ≤ 8202) = false := decide_eq_false c23
                clear c23
                by_cases c24 : a0 = 8232
                · rw [if_pos c24] at H
                  have c24b0 : (a0 == 8232) = true := beq_iff_eq.mpr c24
                  have c24b1 : (a0 != 8232) = false := bne_eq_false_iff_eq.mpr c24
                  clear c24
                  obtain rfl := Option.some.inj H
                  go_enter Tryd.func100, Tryd.ntmps100
                  go_wp2
                  go_ret
                  exact ⟨by first | rfl | (simp; done) | (simp [*]; done), by repeat (first | exact Drawn0.refl _ | apply Drawn0.step)⟩
                · rw [if_neg c24] at H
                  have c24b0 : (a0 == 8232) = false := beq_eq_false_iff_ne.mpr c24
                  have c24b1 : (a0 != 8232) = true := bne_iff_ne.mpr c24
                  by_cases c25 : a0 = 8233
                  · rw [if_pos c25] at H
                    have c25b0 : (a0 == 8233) = true := beq_iff_eq.mpr c25
                    have c25b1 : (a0 != 8233) = false := bne_eq_false_iff_eq.mpr c25
                    clear c25
                    obtain rfl := Option.some.inj H
                    go_enter Tryd.func100, Tryd.ntmps100
                    go_wp2
                    go_ret
                    exact ⟨by first | rfl | (simp; done) | (simp [*]; done), by repeat (first | exact Drawn0.refl _ | apply Drawn0.step)⟩
                  · rw [if_neg c25] at H
                    have c25b0 : (a0 == 8233) = false := beq_eq_false_iff_ne.mpr c25
                    have c25b1 : (a0 != 8233) = true := bne_iff_ne.mpr c25
                    by_cases c26 : a0 = 8239
                    · rw [if_pos c26] at H
                      have c26b0 : (a0 == 8239) = true := beq_iff_eq.mpr c26
                      have c26b1 : (a0 != 8239) = false := bne_eq_false_iff_eq.mpr c26
                      clear c26
                      obtain rfl := Option.some.inj H
                      go_enter Tryd.func100, Tryd.ntmps100
                      go_wp2
                      go_ret
                      exact ⟨by first | rfl | (simp; done) | (simp [*]; done), by repeat (first | exact Drawn0.refl _ | apply Drawn0.step)⟩
                    · rw [if_neg c26] at H
                      have c26b0 : (a0 == 8239) = false := beq_eq_false_iff_ne.mpr c26
                      have c26b1 : (a0 != 8239) = true := bne_iff_ne.mpr c26
                      by_cases c27 : a0 = 8287
                      · rw [if_pos c27] at H
                        have c27b0 : (a0 == 8287) = true := beq_iff_eq.mpr c27
                        have c27b1 : (a0 != 8287) = false := bne_eq_false_iff_eq.mpr c27
                        clear c27
                        obtain rfl := Option.some.inj H
                        go_enter Tryd.func100, Tryd.ntmps100
                        go_wp2
                        go_ret
                        exact ⟨by first | rfl | (simp; done) | (simp [*]; done), by repeat (first | exact Drawn0.refl _ | apply Drawn0.step)⟩
                      · rw [if_neg c27] at H
                        have c27b0 : (a0 == 8287) = false := beq_eq_false_iff_ne.mpr c27
                        have c27b1 : (a0 != 8287) = true := bne_iff_ne.mpr c27
                        obtain rfl := Option.some.inj H
                        go_enter Tryd.func100, Tryd.ntmps100
                        go_wp2
                        go_ret
                        exact ⟨by first | rfl | (simp; done) | (simp [*]; done), by repeat (first | exact Drawn0.refl _ | apply Drawn0.step)⟩
            · rw [if_neg c22] at H
              have c22b0 : decide (8192 ≤ a0) = false := decide_eq_false c22
              clear c22
              by_cases c28 : a0 = 8232
              · rw [if_pos c28] at H
                have c28b0 : (a0 == 8232) = true := beq_iff_eq.mpr c28
                have c28b1 : (a0 != 8232) = false := bne_eq_false_iff_eq.mpr c28
                clear c28
                obtain rfl := Option.some.inj H
                go_enter Tryd.func100, Tryd.ntmps100
                go_wp2
                go_ret
                exact ⟨by first | rfl | (simp; done) | (simp [*]; done), by repeat (first | exact Drawn0.refl _ | apply Drawn0.step)⟩
              · rw [if_neg c28] at H
                have c28b0 : (a0 == 8232) = false := beq_eq_false_iff_ne.mpr c28
                have c28b1 : (a0 != 8232) = true := bne_iff_ne.mpr c28
                by_cases c29 : a0 = 8233
                · rw [if_pos c29] at H
                  have c29b0 : (a0 == 8233) = true := beq_iff_eq.mpr c29
                  have c29b1 : (a0 != 8233) = false := bne_eq_false_iff_eq.mpr c29
                  clear c29
                  obtain rfl := Option.some.inj H
                  go_enter Tryd.func100, Tryd.ntmps100
                  go_wp2
                  go_ret
                  exact ⟨by first | rfl | (simp; done) | (simp [*]; done), by repeat (first | exact Drawn0.refl _ | apply Drawn0.step)⟩
                · rw [if_neg c29] at H
                  have c29b0 : (a0 == 8233) = false := beq_eq_false_iff_ne.mpr c29
                  have c29b1 : (a0 != 8233) = true := bne_iff_ne.mpr c29
                  by_cases c30 : a0 = 8239
                  · rw [if_pos c30] at H
                    have c30b0 : (a0 == 8239) = true := beq_iff_eq.mpr c30
                    have c30b1 : (a0 != 8239) = false := bne_eq_false_iff_eq.mpr c30
                    clear c30
                    obtain rfl := Option.some.inj H
                    go_enter Tryd.func100, Tryd.ntmps100
                    go_wp2
                    go_ret
                    exact ⟨by first | rfl | (simp; done) | (simp [*]; done), by repeat (first | exact Drawn0.refl _ | apply Drawn0.step)⟩
                  · rw [if_neg c30] at H
                    have c30b0 : (a0 == 8239) = false := beq_eq_false_iff_ne.mpr c30
                    have c30b1 : (a0 != 8239) = true := bne_iff_ne.mpr c30
                    by_cases c31 : a0 = 8287
                    · rw [if_pos c31] at H
                      have c31b0 : (a0 == 8287) = true := beq_iff_eq.mpr c31
                      have c31b1 : (a0 != 8287) = false := bne_eq_false_iff_eq.mpr c31
                      clear c31
                      obtain rfl := Option.some.inj H
                      go_enter Tryd.func100, Tryd.ntmps100
                      go_wp2
                      go_ret
                      exact ⟨by first | rfl | (simp; done) | (simp [*]; done), by repeat (first | exact Drawn0.refl _ | apply Drawn0.step)⟩
                    · rw [if_neg c31] at H
                      have c31b0 : (a0 == 8287) = false := beq_eq_false_iff_ne.mpr c31
                      have c31b1 : (a0 != 8287) = true := bne_iff_ne.mpr c31
                      obtain rfl := Option.some.inj H
                      go_enter Tryd.func100, Tryd.ntmps100
                      go_wp2
                      go_ret
                      exact ⟨by first | rfl | (simp; done) | (simp [*]; done), by repeat (first | exact Drawn0.refl _ | apply Drawn0.step)⟩

end Go.Proofs.YtcoddeemfdnjpaaDoor.Fn
namespace Go.Proofs.YtcoddeemfdnjpaaDoor.Fn
open Go.RowKit Go.Proofs.YtcoddeemfdnjpaaDoorW.PrintWords Go.Proofs.YtcoddeemfdnjpaaDoorW.PrintLast Go.Proofs.YtcoddeemfdnjpaaDoorW.PrintMore
attribute [local go_sem] max2_int min2_int max_two min_two max_three min_three max_four min_four   -- for this text's walks alone
set_option linter.unusedVariables false
set_option linter.unusedSimpArgs false

/-! ### rollbookref13_Small: function 101 -/
def rollbookref13_Small.j0 : Nat → Int → Bool → Option (Int)
  | 0, _, _ => none
  | k + 1, x0, x40 => if x40 = true then (some (wrap32 (x0 + 32))) else (if x0 ≥ 1024 then (if x0 ≤ 1039 then (some (wrap32 (x0 + 80))) else (some x0)) else (some x0))
def rollbookref13_Small.f (k : Nat) (a0 : Int) : Option (Int) := if a0 ≥ 65 then (if a0 ≤ 90 then (rollbookref13_Small.j0 k a0 true) else (if a0 ≥ 192 then (if a0 ≤ 222 then (if a0 = 215 then (if a0 ≥ 913 then (if a0 ≤ 937 then (if a0 = 930 then (if a0 ≥ 1040 then (rollbookref13_Small.j0 k a0 (decide (a0 ≤ 1071))) else (rollbookref13_Small.j0 k a0 false)) else (rollbookref13_Small.j0 k a0 true)) else (if a0 ≥ 1040 then (rollbookref13_Small.j0 k a0 (decide (a0 ≤ 1071))) else (rollbookref13_Small.j0 k a0 false))) else (if a0 ≥ 1040 then (rollbookref13_Small.j0 k a0 (decide (a0 ≤ 1071))) else (rollbookref13_Small.j0 k a0 false))) else (rollbookref13_Small.j0 k a0 true)) else (if a0 ≥ 913 then (if a0 ≤ 937 then (if a0 = 930 then (if a0 ≥ 1040 then (rollbookref13_Small.j0 k a0 (decide (a0 ≤ 1071))) else (rollbookref13_Small.j0 k a0 false)) else (rollbookref13_Small.j0 k a0 true)) else (if a0 ≥ 1040 then (rollbookref13_Small.j0 k a0 (decide (a0 ≤ 1071))) else (rollbookref13_Small.j0 k a0 false))) else (if a0 ≥ 1040 then (rollbookref13_Small.j0 k a0 (decide (a0 ≤ 1071))) else (rollbookref13_Small.j0 k a0 false)))) else (if a0 ≥ 913 then (if a0 ≤ 937 then (if a0 = 930 then (if a0 ≥ 1040 then (rollbookref13_Small.j0 k a0 (decide (a0 ≤ 1071))) else (rollbookref13_Small.j0 k a0 false)) else (rollbookref13_Small.j0 k a0 true)) else (if a0 ≥ 1040 then (rollbookref13_Small.j0 k a0 (decide (a0 ≤ 1071))) else (rollbookref13_Small.j0 k a0 false))) else (if a0 ≥ 1040 then (rollbookref13_Small.j0 k a0 (decide (a0 ≤ 1071))) else (rollbookref13_Small.j0 k a0 false))))) else (if a0 ≥ 192 then (if a0 ≤ 222 then (if a0 = 215 then (if a0 ≥ 913 then (if a0 ≤ 937 then (if a0 = 930 then (if a0 ≥ 1040 then (rollbookref13_Small.j0 k a0 (decide (a0 ≤ 1071))) else (rollbookref13_Small.j0 k a0 false)) else (rollbookref13_Small.j0 k a0 true)) else (if a0 ≥ 1040 then (rollbookref13_Small.j0 k a0 (decide (a0 ≤ 1071))) else (rollbookref13_Small.j0 k a0 false))) else (if a0 ≥ 1040 then (rollbookref13_Small.j0 k a0 (decide (a0 ≤ 1071))) else (rollbookref13_Small.j0 k a0 false))) else (rollbookref13_Small.j0 k a0 true)) else (if a0 ≥ 913 then (if a0 ≤ 937 then (if a0 = 930 then (if a0 ≥ 1040 then (rollbookref13_Small.j0 k a0 (decide (a0 ≤ 1071))) else (rollbookref13_Small.j0 k a0 false)) else (rollbookref13_Small.j0 k a0 true)) else (if a0 ≥ 1040 then (rollbookref13_Small.j0 k a0 (decide (a0 ≤ 1071))) else (rollbookref13_Small.j0 k a0 false))) else (if a0 ≥ 1040 then (rollbookref13_Small.j0 k a0 (decide (a0 ≤ 1071))) else (rollbookref13_Small.j0 k a0 false)))) else (if a0 ≥ 913 then (if a0 ≤ 937 then (if a0 = 930 then (if a0 ≥ 1040 then (rollbookref13_Small.j0 k a0 (decide (a0 ≤ 1071))) else (rollbookref13_Small.j0 k a0 false)) else (rollbookref13_Small.j0 k a0 true)) else (if a0 ≥ 1040 then (rollbookref13_Small.j0 k a0 (decide (a0 ≤ 1071))) else (rollbookref13_Small.j0 k a0 false))) else (if a0 ≥ 1040 then (rollbookref13_Small.j0 k a0 (decide (a0 ≤ 1071))) else (rollbookref13_Small.j0 k a0 false))))
theorem rollbookref13_Small.mono_l : ∀ k, (∀ y0 y1, LeO (rollbookref13_Small.j0 k y0 y1) (rollbookref13_Small.j0 (k + 1) y0 y1))
  | 0 => fun _ _ r h => by simp [rollbookref13_Small.j0] at h
  | k + 1 => by
    have ih0 := rollbookref13_Small.mono_l k
    · intro y0 y1
      unfold rollbookref13_Small.j0
      repeat' first
      | (with_reducible exact ih0 _ _)
      | (with_reducible exact LeO.refl _)
      | (with_reducible exact LeO.none _)
      | (with_reducible refine LeO.ite ?_ ?_)
      | (with_reducible refine LeO.bind ?_ (fun _ => ?_))
      | exact ih0 _ _
      | exact LeO.none _
      | refine LeO.ite ?_ ?_
      | refine LeO.bind ?_ (fun _ => ?_)
theorem rollbookref13_Small.mono : ∀ a0 k, LeO (rollbookref13_Small.f k a0) (rollbookref13_Small.f (k + 1) a0) := by
  intro a0 k
  have ih0 := rollbookref13_Small.mono_l k
  unfold rollbookref13_Small.f
  repeat' first
      | (with_reducible exact ih0 _ _)
      | (with_reducible exact LeO.refl _)
      | (with_reducible exact LeO.none _)
      | (with_reducible refine LeO.ite ?_ ?_)
      | (with_reducible refine LeO.bind ?_ (fun _ => ?_))
      | exact ih0 _ _
      | exact LeO.none _
      | refine LeO.ite ?_ ?_
      | refine LeO.bind ?_ (fun _ => ?_)
set_option maxHeartbeats 8000000 in
set_option maxRecDepth 100000 in
theorem rollbookref13_Small.calls (k : Nat) (a0 : Int) (r : Int) (w : World) (h : rollbookref13_Small.f k a0 = some r) :
    Calls Tryd.prog 101 #[.int .i32 a0] w fun e w' => e = .returned (.int .i32 r) ∧ Drawn0 w w' := by
  have H : (if a0 ≥ 65 then (if a0 ≤ 90 then (rollbookref13_Small.j0 k a0 true) else (if a0 ≥ 192 then (if a0 ≤ 222 then (if a0 = 215 then (if a0 ≥ 913 then (if a0 ≤ 937 then (if a0 = 930 then (if a0 ≥ 1040 then (rollbookref13_Small.j0 k a0 (decide (a0 ≤ 1071))) else (rollbookref13_Small.j0 k a0 false)) else (rollbookref13_Small.j0 k a0 true)) else (if a0 ≥ 1040 then (rollbookref13_Small.j0 k a0 (decide (a0 ≤ 1071))) else (rollbookref13_Small.j0 k a0 false))) else (if a0 ≥ 1040 then (rollbookref13_Small.j0 k a0 (decide (a0 ≤ 1071))) else (rollbookref13_Small.j0 k a0 false))) else (rollbookref13_Small.j0 k a0 true)) else (if a0 ≥ 913 then (if a0 ≤ 937 then (if a0 = 930 then (if a0 ≥ 1040 then (rollbookref13_Small.j0 k a0 (decide (a0 ≤ 1071))) else (rollbookref13_Small.j0 k a0 false)) else (rollbookref13_Small.j0 k a0 true)) else (if a0 ≥ 1040 then (rollbookref13_Small.j0 k a0 (decide (a0 ≤ 1071))) else (rollbookref13_Small.j0 k a0 false))) else (if a0 ≥ 1040 then (rollbookref13_Small.j0 k a0 (decide (a0 ≤ 1071))) else (rollbookref13_Small.j0 k a0 false)))) else (if a0 ≥ 913 then (if a0 ≤ 937 then (if a0 = 930 then (if a0 ≥ 1040 then (rollbookref13_Small.j0 k a0 (decide (a0 ≤ 1071))) else (rollbookref13_Small.j0 k a0 false)) else (rollbookref13_Small.j0 k a0 true)) else (if a0 ≥ 1040 then (rollbookref13_Small.j0 k a0 (decide (a0 ≤ 1071))) else (rollbookref13_Small.j0 k a0 false))) else (if a0 ≥ 1040 then (rollbookref13_Small.j0 k a0 (decide (a0 ≤ 1071))) else (rollbookref13_Small.j0 k a0 false))))) else (if a0 ≥ 192 then (if a0 ≤ 222 then (if a0 = 215 then (if a0 ≥ 913 then (if a0 ≤ 937 then (if a0 = 930 then (if a0 ≥ 1040 then (rollbookref13_Small.j0 k a0 (decide (a0 ≤ 1071))) else (rollbookref13_Small.j0 k a0 false)) else (rollbookref13_Small.j0 k a0 true)) else (if a0 ≥ 1040 then (rollbookref13_Small.j0 k a0 (decide (a0 ≤ 1071))) else (rollbookref13_Small.j0 k a0 false))) else (if a0 ≥ 1040 then (rollbookref13_Small.j0 k a0 (decide (a0 ≤ 1071))) else (rollbookref13_Small.j0 k a0 false))) else (rollbookref13_Small.j0 k a0 true)) else (if a0 ≥ 913 then (if a0 ≤ 937 then (if a0 = 930 then (if a0 ≥ 1040 then (rollbookref13_Small.j0 k a0 (decide (a0 ≤ 1071))) else (rollbookref13_Small.j0 k a0 false)) else (rollbookref13_Small.j0 k a0 true)) else (if a0 ≥ 1040 then (rollbookref13_Small.j0 k a0 (decide (a0 ≤ 1071))) else (rollbookref13_Small.j0 k a0 false))) else (if a0 ≥ 1040 then (rollbookref13_Small.j0 k a0 (decide (a0 ≤ 1071))) else (rollbookref13_Small.j0 k a0 false)))) else (if a0 ≥ 913 then (if a0 ≤ 937 then (if a0 = 930 then (if a0 ≥ 1040 then (rollbookref13_Small.j0 k a0 (decide (a0 ≤ 1071))) else (rollbookref13_Small.j0 k a0 false)) else (rollbookref13_Small.j0 k a0 true)) else (if a0 ≥ 1040 then (rollbookref13_Small.j0 k a0 (decide (a0 ≤ 1071))) else (rollbookref13_Small.j0 k a0 false))) else (if a0 ≥ 1040 then (rollbookref13_Small.j0 k a0 (decide (a0 ≤ 1071))) else (rollbookref13_Small.j0 k a0 false))))) = some r := h
  clear h
  have HC2 := Aside0.mk H
  clear H
  go_enter Tryd.func101, Tryd.ntmps101
  go_upto_region 1 with (fail)
  go_cut [40] (fun v40 wc => ∃ (kq : Nat) (x40_1 : Bool), v40 = .bool x40_1 ∧ Aside0 (rollbookref13_Small.j0 kq a0 x40_1 = some r) ∧ Aside0 (kq ≤ k) ∧ Drawn0 w wc)
  case first =>
    have H := HC2.out
    clear HC2
    by_cases c3 : a0 ≥ 65
    · rw [if_pos c3] at H
      have c3b0 : decide (65 ≤ a0) = true := decide_eq_true c3
      clear c3
      (first | rw [c3b0] | (simp only [i64_w, i32_w]; rw [c3b0]) | skip)
      by_cases c4 : a0 ≤ 90
      · rw [if_pos c4] at H
        have c4b0 : decide (a0 ≤ 90) = true := decide_eq_true c4
        clear c4
        have H' := Aside0.mk H
        clear H
        go_wp2
        go_meet
        case rel => exact ⟨_, (true), (by first | rfl | (simp; done) | (simp [*]; done)), H', ⟨by first | omega | exact Nat.le_refl _⟩, by repeat (first | exact Drawn0.refl _ | apply Drawn0.step)⟩
      · rw [if_neg c4] at H
        have c4b0 : decide (a0 ≤ 90) = false := decide_eq_false c4
        clear c4
        by_cases c5 : a0 ≥ 192
        · rw [if_pos c5] at H
          have c5b0 : decide (192 ≤ a0) = true := decide_eq_true c5
          clear c5
          by_cases c6 : a0 ≤ 222
          · rw [if_pos c6] at H
            have c6b0 : decide (a0 ≤ 222) = true := decide_eq_true c6
            clear c6
            by_cases c7 : a0 = 215
            · rw [if_pos c7] at H
              have c7b0 : (a0 == 215) = true := beq_iff_eq.mpr c7
              have c7b1 : (a0 != 215) = false := bne_eq_false_iff_eq.mpr c7
              clear c7
              by_cases c8 : a0 ≥ 913
              · rw [if_pos c8] at H
                have c8b0 : decide (913 ≤ a0) = true := decide_eq_true c8
                clear c8
                by_cases c9 : a0 ≤ 937
                · rw [if_pos c9] at H
                  have c9b0 : decide (a0 ≤ 937) = true := decide_eq_true c9
                  clear c9
                  by_cases c10 : a0 = 930
                  · rw [if_pos c10] at H
                    have c10b0 : (a0 == 930) = true := beq_iff_eq.mpr c10
                    have c10b1 : (a0 != 930) = false := bne_eq_false_iff_eq.mpr c10
                    clear c10
                    by_cases c11 : a0 ≥ 1040
                    · rw [if_pos c11] at H
                      have c11b0 : decide (1040 ≤ a0) = true := decide_eq_true c11
                      clear c11
                      have H' := Aside0.mk H
                      clear H
                      go_wp2
                      go_meet
                      case rel => exact ⟨_, (decide (a0 ≤ 1071)), (by first | rfl | (simp; done) | (simp [*]; done)), H', ⟨by first | omega | exact Nat.le_refl _⟩, by repeat (first | exact Drawn0.refl _ | apply Drawn0.step)⟩
                    · rw [if_neg c11] at H
                      have c11b0 : decide (1040 ≤ a0) = false := decide_eq_false c11
                      clear c11
                      have H' := Aside0.mk H
                      clear H
                      go_wp2
                      go_meet
                      case rel => exact ⟨_, (false), (by first | rfl | (simp; done) | (simp [*]; done)), H', ⟨by first | omega | exact Nat.le_refl _⟩, by repeat (first | exact Drawn0.refl _ | apply Drawn0.step)⟩
                  · rw [if_neg c10] at H
                    have c10b0 : (a0 == 930) = false := beq_eq_false_iff_ne.mpr c10
                    have c10b1 : (a0 != 930) = true := bne_iff_ne.mpr c10
                    have H' := Aside0.mk H
                    clear H
                    go_wp2
                    go_meet
                    case rel => exact ⟨_, (true), (by first | rfl | (simp; done) | (simp [*]; done)), H', ⟨by first | omega | exact Nat.le_refl _⟩, by repeat (first | exact Drawn0.refl _ | apply Drawn0.step)⟩
                · rw [if_neg c9] at H
                  have c9b0 : decide (a0 ≤ 937) = false := decide_eq_false c9
                  clear c9
                  by_cases c12 : a0 ≥ 1040
                  · rw [if_pos c12] at H
                    have c12b0 : decide (1040 ≤ a0) = true := decide_eq_true c12
                    clear c12
                    have H' := Aside0.mk H
                    clear H
                    go_wp2
                    go_meet
                    case rel => exact ⟨_, (decide (a0 ≤ 1071)), (by first | rfl | (simp; done) | (simp [*]; done)), H', ⟨by first | omega | exact Nat.le_refl _⟩, by repeat (first | exact Drawn0.refl _ | apply Drawn0.step)⟩
                  · rw [if_neg c12] at H
                    have c12b0 : decide (1040 ≤ a0) = false := decide_eq_false c12
                    clear c12
                    have H' := Aside0.mk H
                    clear H
                    go_wp2
                    go_meet
                    case rel => exact ⟨_, (false), (by first | rfl | (simp; done) | (simp [*]; done)), H', ⟨by first | omega | exact Nat.le_refl _⟩, by repeat (first | exact Drawn0.refl _ | apply Drawn0.step)⟩
              · rw [if_neg c8] at H
                have c8b0 : decide (913 ≤ a0) = false := decide_eq_false c8
                clear c8
                by_cases c13 : a0 ≥ 1040
                · rw [if_pos c13] at H
                  have c13b0 : decide (1040 ≤ a0) = true := decide_eq_true c13
                  clear c13
                  have H' := Aside0.mk H
                  clear H
                  go_wp2
                  go_meet
                  case rel => exact ⟨_, (decide (a0 ≤ 1071)), (by first | rfl | (simp; done) | (simp [*]; done)), H', ⟨by first | omega | exact Nat.le_refl _⟩, by repeat (first | exact Drawn0.refl _ | apply Drawn0.step)⟩
                · rw [if_neg c13] at H
                  have c13b0 : decide (1040 ≤ a0) = false := decide_eq_false c13
                  clear c13
                  have H' := Aside0.mk H
                  clear H
                  go_wp2
                  go_meet
                  case rel => exact ⟨_, (false), (by first | rfl | (simp; done) | (simp [*]; done)), H', ⟨by first | omega | exact Nat.le_refl _⟩, by repeat (first | exact Drawn0.refl _ | apply Drawn0.step)⟩
            · rw [if_neg c7] at H
              have c7b0 : (a0 == 215) = false := beq_eq_false_iff_ne.mpr c7
              have c7b1 : (a0 != 215) = true := bne_iff_ne.mpr c7
              have H' := Aside0.mk H
              clear H
              go_wp2
              go_meet
              case rel => exact ⟨_, (true), (by first | rfl | (simp; done) | (simp [*]; done)), H', ⟨by first | omega | exact Nat.le_refl _⟩, by repeat (first | exact Drawn0.refl _ | apply Drawn0.step)⟩
          · rw [if_neg c6] at H
            have c6b0 : decide (a0 ≤ 222) = false := decide_eq_false c6
            clear c6
            by_cases c14 : a0 ≥ 913
            · rw [if_pos c14] at H
              have c14b0 : decide (913 ≤ a0) = true := decide_eq_true c14
              clear c14
              by_cases c15 : a0 ≤ 937
              · rw [if_pos c15] at H
                have c15b0 : decide (a0 ≤ 937) = true := decide_eq_true c15
                clear c15
                by_cases c16 : a0 = 930
                · rw [if_pos c16] at H
                  have c16b0 : (a0 == 930) = true := beq_iff_eq.mpr c16
                  have c16b1 : (a0 != 930) = false := bne_eq_false_iff_eq.mpr c16
                  clear c16
                  by_cases c17 : a0 ≥ 1040
                  · rw [if_pos c17] at H
                    have c17b0 : decide (1040 ≤ a0) = true := decide_eq_true c17
                    clear c17
                    have H' := Aside0.mk H
                    clear H
                    go_wp2
                    go_meet
                    case rel => exact ⟨_, (decide (a0 ≤ 1071)), (by first | rfl | (simp; done) | (simp [*]; done)), H', ⟨by first | omega | exact Nat.le_refl _⟩, by repeat (first | exact Drawn0.refl _ | apply Drawn0.step)⟩
                  · rw [if_neg c17] at H
                    have c17b0 : decide (1040 ≤ a0) = false := decide_eq_false c17
                    clear c17
                    have H' := Aside0.mk H
                    clear H
                    go_wp2
                    go_meet
                    case rel => exact ⟨_, (false), (by first | rfl | (simp; done) | (simp [*]; done)), H', ⟨by first | omega | exact Nat.le_refl _⟩, by repeat (first | exact Drawn0.refl _ | apply Drawn0.step)⟩
                · rw [if_neg c16] at H
                  have c16b0 : (a0 == 930) = false := beq_eq_false_iff_ne.mpr c16
                  have c16b1 : (a0 != 930) = true := bne_iff_ne.mpr c16
                  have H' := Aside0.mk H
                  clear H
                  go_wp2
                  go_meet
                  case rel => exact ⟨_, (true), (by first | rfl | (simp; done) | (simp [*]; done)), H', ⟨by first | omega | exact Nat.le_refl _⟩, by repeat (first | exact Drawn0.refl _ | apply Drawn0.step)⟩
              · rw [if_neg c15] at H
                have c15b0 : decide (a0 ≤ 937) = false := decide_eq_false c15
                clear c15
                by_cases c18 : a0 ≥ 1040
                · rw [if_pos c18] at H
                  have c18b0 : decide (1040 ≤ a0) = true := decide_eq_true c18
                  clear c18
                  have H' := Aside0.mk H
                  clear H
                  go_wp2
                  go_meet
                  case rel => exact ⟨_, (decide (a0 ≤ 1071)), (by first | rfl | (simp; done) | (simp [*]; done)), H', ⟨by first | omega | exact Nat.le_refl _⟩, by repeat (first | exact Drawn0.refl _ | apply Drawn0.step)⟩
                · rw [if_neg c18] at H
                  have c18b0 : decide (1040 ≤ a0) = false := decide_eq_false c18
                  clear c18
                  have H' := Aside0.mk H
                  clear H
                  go_wp2
                  go_meet
                  case rel => exact ⟨_, (false), (by first | rfl | (simp; done) | (simp [*]; done)), H', ⟨by first | omega | exact Nat.le_refl _⟩, by repeat (first | exact Drawn0.refl _ | apply Drawn0.step)⟩
            · rw [if_neg c14] at H
              have c14b0 : decide (913 ≤ a0) = false := decide_eq_false c14
              clear c14
              by_cases c19 : a0 ≥ 1040
              · rw [if_pos c19] at H
                have c19b0 : decide (1040 ≤ a0) = true := decide_eq_true c19
                clear c19
                have H' := Aside0.mk H
                clear H
                go_wp2
                go_meet
                case rel => exact ⟨_, (decide (a0 ≤ 1071)), (by first | rfl | (simp; done) | (simp [*]; done)), H', ⟨by first | omega | exact Nat.le_refl _⟩, by repeat (first | exact Drawn0.refl _ | apply Drawn0.step)⟩
              · rw [if_neg c19] at H
                have c19b0 : decide (1040 ≤ a0) = false := decide_eq_false c19
                clear c19
                have H' := Aside0.mk H
                clear H
                go_wp2
                go_meet
                case rel => exact ⟨_, (false), (by first | rfl | (simp; done) | (simp [*]; done)), H', ⟨by first | omega | exact Nat.le_refl _⟩, by repeat (first | exact Drawn0.refl _ | apply Drawn0.step)⟩
        · rw [if_neg c5] at H
          have c5b0 : decide (192 ≤ a0) = false := decide_eq_false c5
          clear c5
          by_cases c20 : a0 ≥ 913
          · rw [if_pos c20] at H
            have c20b0 : decide (913 ≤ a0) = true := decide_eq_true c20
            clear c20
            by_cases c21 : a0 ≤ 937
            · rw [if_pos c21] at H
              have c21b0 : decide (a0 ≤ 937) = true := decide_eq_true c21
              clear c21
              by_cases c22 : a0 = 930
              · rw [if_pos c22] at H
                have c22b0 : (a0 == 930) = true := beq_iff_eq.mpr c22
                have c22b1 : (a0 != 930) = false := bne_eq_false_iff_eq.mpr c22
                clear c22
                by_cases c23 : a0 ≥ 1040
                · rw [if_pos c23] at H
                  have c23b0 : decide (1040 ≤ a0) = true := decide_eq_true c23
                  clear c23
                  have H' := Aside0.mk H
                  clear H
                  go_wp2
                  go_meet
                  case rel => exact ⟨_, (decide (a0 ≤ 1071)), (by first | rfl | (simp; done) | (simp [*]; done)), H', ⟨by first | omega | exact Nat.le_refl _⟩, by repeat (first | exact Drawn0.refl _ | apply Drawn0.step)⟩
                · rw [if_neg c23] at H
                  have c23b0 : decide (1040 ≤ a0) = false := decide_eq_false c23
                  clear c23
                  have H' := Aside0.mk H
                  clear H
                  go_wp2
                  go_meet
                  case rel => exact ⟨_, (false), (by first | rfl | (simp; done) | (simp [*]; done)), H', ⟨by first | omega | exact Nat.le_refl _⟩, by repeat (first | exact Drawn0.refl _ | apply Drawn0.step)⟩
              · rw [if_neg c22] at H
                have c22b0 : (a0 == 930) = false := beq_eq_false_iff_ne.mpr c22
                have c22b1 : (a0 != 930) = true := bne_iff_ne.mpr c22
                have H' := Aside0.mk H
                clear H
                go_wp2
                go_meet
                case rel => exact ⟨_, (true), (by first | rfl | (simp; done) | (simp [*]; done)), H', ⟨by first | omega | exact Nat.le_refl _⟩, by repeat (first | exact Drawn0.refl _ | apply Drawn0.step)⟩
            · rw [if_neg c21] at H
              have c21b0 : decide (a0 ≤ 937) = false := decide_eq_false c21
              clear c21
              by_cases c24 : a0 ≥ 1040
              · rw [if_pos c24] at H
                have c24b0 : decide (1040 ≤ a0) = true := decide_eq_true c24
                clear c24
                have H' := Aside0.mk H
                clear H
                go_wp2
                go_meet
                case rel => exact ⟨_, (decide (a0 ≤ 1071)), (by first | rfl | (simp; done) | (simp [*]; done)), H', ⟨by first | omega | exact Nat.le_refl _⟩, by repeat (first | exact Drawn0.refl _ | apply Drawn0.step)⟩
              · rw [if_neg c24] at H
                have c24b0 : decide (1040 ≤ a0) = false := decide_eq_false c24
                clear c24
                have H' := Aside0.mk H
                clear H
                go_wp2
                go_meet
                case rel => exact ⟨_, (false), (by first | rfl | (simp; done) | (simp [*]; done)), H', ⟨by first | omega | exact Nat.le_refl _⟩, by repeat (first | exact Drawn0.refl _ | apply Drawn0.step)⟩
          · rw [if_neg c20] at H
            have c20b0 : decide (913 ≤ a0) = false := decide_eq_false c20
            clear c20
            by_cases c25 : a0 ≥ 1040
            · rw [if_pos c25] at H
              have c25b0 : decide (1040 ≤ a0) = true := decide_eq_true c25
              clear c25
              have H' := Aside0.mk H
              clear H
              go_wp2
              go_meet
              case rel => exact ⟨_, (decide (a0 ≤ 1071)), (by first | rfl | (simp; done) | (simp [*]; done)), H', ⟨by first | omega | exact Nat.le_refl _⟩, by repeat (first | exact Drawn0.refl _ | apply Drawn0.step)⟩
            · rw [if_neg c25] at H
              have c25b0 : decide (1040 ≤ a0) = false := decide_eq_false c25
              clear c25
              have H' := Aside0.mk H
              clear H
              go_wp2
              go_meet
              case rel => exact ⟨_, (false), (by first | rfl | (simp; done) | (simp [*]; done)), H', ⟨by first | omega | exact Nat.le_refl _⟩, by repeat (first | exact Drawn0.refl _ | apply Drawn0.step)⟩
    · rw [if_neg c3] at H
      have c3b0 : decide (65 ≤ a0) = false := decide_eq_false c3
      clear c3
      (first | rw [c3b0] | (simp only [i64_w, i32_w]; rw [c3b0]) | skip)
      by_cases c26 : a0 ≥ 192
      · rw [if_pos c26] at H
        have c26b0 : decide (192 ≤ a0) = true := decide_eq_true c26
        clear c26
        by_cases c27 : a0 ≤ 222
        · rw [if_pos c27] at H
          have c27b0 : decide (a0 ≤ 222) = true := decide_eq_true c27
          clear c27
          by_cases c28 : a0 = 215
          · rw [if_pos c28] at H
            have c28b0 : (a0 == 215) = true := beq_iff_eq.mpr c28
            have c28b1 : (a0 != 215) = false := bne_eq_false_iff_eq.mpr c28
            clear c28
            by_cases c29 : a0 ≥ 913
            · rw [if_pos c29] at H
              have c29b0 : decide (913 ≤ a0) = true := decide_eq_true c29
              clear c29
              by_cases c30 : a0 ≤ 937
              · rw [if_pos c30] at H
                have c30b0 : decide (a0 ≤ 937) = true := decide_eq_true c30
                clear c30
                by_cases c31 : a0 = 930
                · rw [if_pos c31] at H
                  have c31b0 : (a0 == 930) = true := beq_iff_eq.mpr c31
                  have c31b1 : (a0 != 930) = false := bne_eq_false_iff_eq.mpr c31
                  clear c31
                  by_cases c32 : a0 ≥ 1040
                  · rw [if_pos c32] at H
                    have c32b0 : decide (1040 ≤ a0) = true := decide_eq_true c32
                    clear c32
                    have H' := Aside0.mk H
                    clear H
                    go_wp2
                    go_meet
                    case rel => exact ⟨_, (decide (a0 ≤ 1071)), (by first | rfl | (simp; done) | (simp [*]; done)), H', ⟨by first | omega | exact Nat.le_refl _⟩, by repeat (first | exact Drawn0.refl _ | apply Drawn0.step)⟩
                  · rw [if_neg c32] at H
                    have c32b0 : decide (1040 ≤ a0) = false := decide_eq_false c32
                    clear c32
                    have H' := Aside0.mk H
                    clear H
                    go_wp2
                    go_meet
                    case rel => exact ⟨_, (false), (by first | rfl | (simp; done) | (simp [*]; done)), H', ⟨by first | omega | exact Nat.le_refl _⟩, by repeat (first | exact Drawn0.refl _ | apply Drawn0.step)⟩
                · rw [if_neg c31] at H
                  have c31b0 : (a0 == 930) = false := beq_eq_false_iff_ne.mpr c31
                  have c31b1 : (a0 != 930) = true := bne_iff_ne.mpr c31
                  have H' := Aside0.mk H
                  clear H
                  go_wp2
                  go_meet
                  case rel => exact ⟨_, (true), (by first | rfl | (simp; done) | (simp [*]; done)), H', ⟨by first | omega | exact Nat.le_refl _⟩, by repeat (first | exact Drawn0.refl _ | apply Drawn0.step)⟩
              · rw [if_neg c30] at H
                have c30b0 : decide (a0 ≤ 937) = false := decide_eq_false c30
                clear c30
                by_cases c33 : a0 ≥ 1040
                · rw [if_pos c33] at H
                  have c33b0 : decide (1040 ≤ a0) = true := decide_eq_true c33
                  clear c33
                  have H' := Aside0.mk H
                  clear H
                  go_wp2
                  go_meet
                  case rel => exact ⟨_, (decide (a0 ≤ 1071)), (by first | rfl | (simp; done) | (simp [*]; done)), H', ⟨by first | omega | exact Nat.le_refl _⟩, by repeat (first | exact Drawn0.refl _ | apply Drawn0.step)⟩
                · rw [if_neg c33] at H
                  have c33b0 : decide (1040 ≤ a0) = false := decide_eq_false c33
                  clear c33
                  have H' := Aside0.mk H
                  clear H
                  go_wp2
                  go_meet
                  case rel => exact ⟨_, (false), (by first | rfl | (simp; done) | (simp [*]; done)), H', ⟨by first | omega | exact Nat.le_refl _⟩, by repeat (first | exact Drawn0.refl _ | apply Drawn0.step)⟩
            · rw [if_neg c29] at H
              have c29b0 : decide (913 ≤ a0) = false := decide_eq_false c29
              clear c29
              by_cases c34 : a0 ≥ 1040
              · rw [if_pos c34] at H
                have c34b0 : decide (1040 ≤ a0) = true := decide_eq_true c34
                clear c34
                have H' := Aside0.mk H
                clear H
                go_wp2
                go_meet
                case rel => exact ⟨_, (decide (a0 ≤ 1071)), (by first | rfl | (simp; done) | (simp [*]; done)), H', ⟨by first | omega | exact Nat.le_refl _⟩, by repeat (first | exact Drawn0.refl _ | apply Drawn0.step)⟩
              · rw [if_neg c34] at H
                have c34b0 : decide (1040 ≤ a0) = false := decide_eq_false c34
                clear c34
                have H' := Aside0.mk H
                clear H
                go_wp2
                go_meet
                case rel => exact ⟨_, (false), (by first | rfl | (simp; done) | (simp [*]; done)), H', ⟨by first | omega | exact Nat.le_refl _⟩, by repeat (first | exact Drawn0.refl _ | apply Drawn0.step)⟩
          · rw [if_neg c28] at H
            have c28b0 : (a0 == 215) = false := beq_eq_false_iff_ne.mpr c28
            have c28b1 : (a0 != 215) = true := bne_iff_ne.mpr c28
            have H' := Aside0.mk H
            clear H
            go_wp2
            go_meet
            case rel => exact ⟨_, (true), (by first | rfl | (simp; done) | (simp [*]; done)), H', ⟨by first | omega | exact Nat.le_refl _⟩, by repeat (first | exact Drawn0.refl _ | apply Drawn0.step)⟩
        · rw [if_neg c27] at H
          have c27b0 : decide (a0 ≤ 222) = false := decide_eq_false c27
          clear c27
          by_cases c35 : a0 ≥ 913
          · rw [if_pos c35] at H
            have c35b0 : decide (913 ≤ a0) = true := decide_eq_true c35
            clear c35
            by_cases c36 : a0 ≤ 937
            · rw [if_pos c36] at H
              have c36b0 : decide (a0 ≤ 937) = true := decide_eq_true c36
              clear c36
              by_cases c37 : a0 = 930
              · rw [if_pos c37] at H
                have c37b0 : (a0 == 930) = true := beq_iff_eq.mpr c37
                have c37b1 : (a0 != 930) = false := bne_eq_false_iff_eq.mpr c37
                clear c37
                by_cases c38 : a0 ≥ 1040
                · rw [if_pos c38] at H
                  have c38b0 : decide (1040 ≤ a0) = true := decide_eq_true c38
                  clear c38
                  have H' := Aside0.mk H
                  clear H
                  go_wp2
                  go_meet
                  case rel => exact ⟨_, (decide (a0 ≤ 1071)), (by first | rfl | (simp; done) | (simp [*]; done)), H', ⟨by first | omega | exact Nat.le_refl _⟩, by repeat (first | exact Drawn0.refl _ | apply Drawn0.step)⟩
                · rw [if_neg c38] at H
                  have c38b0 : decide (1040 ≤ a0) = false := decide_eq_false c38
                  clear c38
                  have H' := Aside0.mk H
                  clear H
                  go_wp2
                  go_meet
                  case rel => exact ⟨_, (false), (by first | rfl | (simp; done) | (simp [*]; done)), H', ⟨by first | omega | exact Nat.le_refl _⟩, by repeat (first | exact Drawn0.refl _ | apply Drawn0.step)⟩
              · rw [if_neg c37] at H
                have c37b0 : (a0 == 930) = false := beq_eq_false_iff_ne.mpr c37
                have c37b1 : (a0 != 930) = true := bne_iff_ne.mpr c37
                have H' := Aside0.mk H
                clear H
                go_wp2
                go_meet
                case rel => exact ⟨_, (true), (by first | rfl | (simp; done) | (simp [*]; done)), H', ⟨by first | omega | exact Nat.le_refl _⟩, by repeat (first | exact Drawn0.refl _ | apply Drawn0.step)⟩
            · rw [if_neg c36] at H
              have c36b0 : decide (a0 ≤ 937) = false := decide_eq_false c36
              clear c36
              by_cases c39 : a0 ≥ 1040
              · rw [if_pos c39] at H
                have c39b0 : decide (1040 ≤ a0) = true := decide_eq_true c39
                clear c39
                have H' := Aside0.mk H
                clear H
                go_wp2
                go_meet
                case rel => exact ⟨_, (decide (a0 ≤ 1071)), (by first | rfl | (simp; done) | (simp [*]; done)), H', ⟨by first | omega | exact Nat.le_refl _⟩, by repeat (first | exact Drawn0.refl _ | apply Drawn0.step)⟩
              · rw [if_neg c39] at H
                have c39b0 : decide (1040 ≤ a0) = false := decide_eq_false c39
                clear c39
                have H' := Aside0.mk H
                clear H
                go_wp2
                go_meet
                case rel => exact ⟨_, (false), (by first | rfl | (simp; done) | (simp [*]; done)), H', ⟨by first | omega | exact Nat.le_refl _⟩, by repeat (first | exact Drawn0.refl _ | apply Drawn0.step)⟩
          · rw [if_neg c35] at H
            have c35b0 : decide (913 ≤ a0) = false := decide_eq_false c35
            clear c35
            by_cases c40 : a0 ≥ 1040
            · rw [if_pos c40] at H
              have c40b0 : decide (1040 ≤ a0) = true := decide_eq_true c40
              clear c40
              have H' := Aside0.mk H
              clear H
              go_wp2
              go_meet
              case rel => exact ⟨_, (decide (a0 ≤ 1071)), (by first | rfl | (simp; done) | (simp [*]; done)), H', ⟨by first | omega | exact Nat.le_refl _⟩, by repeat (first | exact Drawn0.refl _ | apply Drawn0.step)⟩
            · rw [if_neg c40] at H
              have c40b0 : decide (1040 ≤ a0) = false := decide_eq_false c40
              clear c40
              have H' := Aside0.mk H
              clear H
              go_wp2
              go_meet
              case rel => exact ⟨_, (false), (by first | rfl | (simp; done) | (simp [*]; done)), H', ⟨by first | omega | exact Nat.le_refl _⟩, by repeat (first | exact Drawn0.refl _ | apply Drawn0.step)⟩
      · rw [if_neg c26] at H
        have c26b0 : decide (192 ≤ a0) = false := decide_eq_false c26
        clear c26
        by_cases c41 : a0 ≥ 913
        · rw [if_pos c41] at H
          have c41b0 : decide (913 ≤ a0) = true := decide_eq_true c41
          clear c41
          by_cases c42 : a0 ≤ 937
          · rw [if_pos c42] at H
            have c42b0 : decide (a0 ≤ 937) = true := decide_eq_true c42
            clear c42
            by_cases c43 : a0 = 930
            · rw [if_pos c43] at H
              have c43b0 : (a0 == 930) = true := beq_iff_eq.mpr c43
              have c43b1 : (a0 != 930) = false := bne_eq_false_iff_eq.mpr c43
              clear c43
              by_cases c44 : a0 ≥ 1040
              · rw [if_pos c44] at H
                have c44b0 : decide (1040 ≤ a0) = true := decide_eq_true c44
                clear c44
                have H' := Aside0.mk H
                clear H
                go_wp2
                go_meet
                case rel => exact ⟨_, (decide (a0 ≤ 1071)), (by first | rfl | (simp; done) | (simp [*]; done)), H', ⟨by first | omega | exact Nat.le_refl _⟩, by repeat (first | exact Drawn0.refl _ | apply Drawn0.step)⟩
              · rw [if_neg c44] at H
                have c44b0 : decide (1040 ≤ a0) = false := decide_eq_false c44
                clear c44
                have H' := Aside0.mk H
                clear H
                go_wp2
                go_meet
                case rel => exact ⟨_, (false), (by first | rfl | (simp; done) | (simp [*]; done)), H', ⟨by first | omega | exact Nat.le_refl _⟩, by repeat (first | exact Drawn0.refl _ | apply Drawn0.step)⟩
            · rw [if_neg c43] at H
              have c43b0 : (a0 == 930) = false := beq_eq_false_iff_ne.mpr c43
              have c43b1 : (a0 != 930) = true := bne_iff_ne.mpr c43
              have H' := Aside0.mk H
              clear H
              go_wp2
              go_meet
              case rel => exact ⟨_, (true), (by first | rfl | (simp; done) | (simp [*]; done)), H', ⟨by first | omega | exact Nat.le_refl _⟩, by repeat (first | exact Drawn0.refl _ | apply Drawn0.step)⟩
          · rw [if_neg c42] at H
            have c42b0 : decide (a0 ≤ 937) = false := decide_eq_false c42
            clear c42
            by_cases c45 : a0 ≥ 1040
            · rw [if_pos c45] at H
              have c45b0 : decide (1040 ≤ a0) = true := decide_eq_true c45
              clear c45
              have H' := Aside0.mk H
              clear H
              go_wp2
              go_meet
              case rel => exact ⟨_, (decide (a0 ≤ 1071)), (by first | rfl | (simp; done) | (simp [*]; done)), H', ⟨by first | omega | exact Nat.le_refl _⟩, by repeat (first | exact Drawn0.refl _ | apply Drawn0.step)⟩
            · rw [if_neg c45] at H
              have c45b0 : decide (1040 ≤ a0) = false := decide_eq_false c45
              clear c45
              have H' := Aside0.mk H
              clear H
              go_wp2
              go_meet
              case rel => exact ⟨_, (false), (by first | rfl | (simp; done) | (simp [*]; done)), H', ⟨by first | omega | exact Nat.le_refl _⟩, by repeat (first | exact Drawn0.refl _ | apply Drawn0.step)⟩
        · rw [if_neg c41] at H
          have c41b0 : decide (913 ≤ a0) = false := decide_eq_false c41
          clear c41
          by_cases c46 : a0 ≥ 1040
          · rw [if_pos c46] at H
            have c46b0 : decide (1040 ≤ a0) = true := decide_eq_true c46
            clear c46
            have H' := Aside0.mk H
            clear H
            go_wp2
            go_meet
            case rel => exact ⟨_, (decide (a0 ≤ 1071)), (by first | rfl | (simp; done) | (simp [*]; done)), H', ⟨by first | omega | exact Nat.le_refl _⟩, by repeat (first | exact Drawn0.refl _ | apply Drawn0.step)⟩
          · rw [if_neg c46] at H
            have c46b0 : decide (1040 ≤ a0) = false := decide_eq_false c46
            clear c46
            have H' := Aside0.mk H
            clear H
            go_wp2
            go_meet
            case rel => exact ⟨_, (false), (by first | rfl | (simp; done) | (simp [*]; done)), H', ⟨by first | omega | exact Nat.le_refl _⟩, by repeat (first | exact Drawn0.refl _ | apply Drawn0.step)⟩
  case rest =>
    clear HC2
    try clear c1
    try clear c2
    try clear p2
    try clear c3
    try clear c3b0
    try clear c4
    try clear c4b0
    try clear c5
    try clear c5b0
    try clear c6
    try clear c6b0
    try clear c7
    try clear c7b0
    try clear c7b1
    try clear c8
    try clear c8b0
    try clear c9
    try clear c9b0
    try clear c10
    try clear c10b0
    try clear c10b1
    try clear c11
    try clear c11b0
    try clear c12
    try clear c12b0
    try clear c13
    try clear c13b0
    try clear c14
    try clear c14b0
    try clear c15
    try clear c15b0
    try clear c16
    try clear c16b0
    try clear c16b1
    try clear c17
    try clear c17b0
    try clear c18
    try clear c18b0
    try clear c19
    try clear c19b0
    try clear c20
    try clear c20b0
    try clear c21
    try clear c21b0
    try clear c22
    try clear c22b0
    try clear c22b1
    try clear c23
    try clear c23b0
    try clear c24
    try clear c24b0
    try clear c25
    try clear c25b0
    try clear c26
    try clear c26b0
    try clear c27
    try clear c27b0
    try clear c28
    try clear c28b0
    try clear c28b1
    try clear c29
    try clear c29b0
    try clear c30
    try clear c30b0
    try clear c31
    try clear c31b0
    try clear c31b1
    try clear c32
    try clear c32b0
    try clear c33
    try clear c33b0
    try clear c34
    try clear c34b0
    try clear c35
    try clear c35b0
    try clear c36
    try clear c36b0
    try clear c37
    try clear c37b0
    try clear c37b1
    try clear c38
    try clear c38b0
    try clear c39
    try clear c39b0
    try clear c40
    try clear c40b0
    try clear c41
    try clear c41b0
    try clear c42
    try clear c42b0
    try clear c43
    try clear c43b0
    try clear c43b1
    try clear c44
    try clear c44b0
    try clear c45
    try clear c45b0
    try clear c46
    try clear c46b0
    obtain ⟨kq, x40_1, rfl, HA, HJ1, ⟨mc1, rfl⟩⟩ := hcut
    cases kq with
    | zero => exact absurd HA.out (by simp [rollbookref13_Small.j0])
    | succ kj1 =>
      have H := HA.out
      clear HA
      simp only [rollbookref13_Small.j0] at H
      by_cases c47 : x40_1 = true
      · subst c47
        have H1 : (some (wrap32 (a0 + 32))) = some r := by rw [if_pos rfl] at H; exact H
        clear H
        have H := H1
        clear H1
        obtain rfl := Option.some.inj H
        go_wp2
        go_ret
        exact ⟨by first | rfl | (simp; done) | (simp [*]; done), by repeat (first | exact Drawn0.refl _ | apply Drawn0.step)⟩
      · replace c47 := Bool.eq_false_iff.mpr c47
        subst c47
        have H1 : (if a0 ≥ 1024 then (if a0 ≤ 1039 then (some (wrap32 (a0 + 80))) else (some a0)) else (some a0)) = some r := by rw [if_neg (show ¬ (false = true) by decide)] at H; exact H
        clear H
        have H := H1
        clear H1
        by_cases c48 : a0 ≥ 1024
        · rw [if_pos c48] at H
          have c48b0 : decide (1024 ≤ a0) = true := decide_eq_true c48
          clear c48
          by_cases c49 : a0 ≤ 1039
          · rw [if_pos c49] at H
            have c49b0 : decide (a0 ≤ 1039) = true := decide_eq_true c49
            clear c49
            obtain rfl := Option.some.inj H
            go_wp2
            go_ret
            exact ⟨by first | rfl | (simp; done) | (simp [*]; done), by repeat (first | exact Drawn0.refl _ | apply Drawn0.step)⟩
          · rw [if_neg c49] at H
            have c49b0 : decide (a0 ≤ 1039) = false := decide_eq_false c49
            clear c49
            obtain rfl := Option.some.inj H
            go_wp2
            go_ret
            exact ⟨by first | rfl | (simp; done) | (simp [*]; done), by repeat (first | exact Drawn0.refl _ | apply Drawn0.step)⟩
        · rw [if_neg c48] at H
          have c48b0 : decide (1024 ≤ a0) = false := decide_eq_false c48
          clear c48
          obtain rfl := Option.some.inj H
          go_wp2
          go_ret
          exact ⟨by first | rfl | (simp; done) | (simp [*]; done), by repeat (first | exact Drawn0.refl _ | apply Drawn0.step)⟩

end Go.Proofs.YtcoddeemfdnjpaaDoor.Fn
namespace Go.Proofs.YtcoddeemfdnjpaaDoor.Fn
open Go.RowKit Go.Proofs.YtcoddeemfdnjpaaDoorW.PrintWords Go.Proofs.YtcoddeemfdnjpaaDoorW.PrintLast Go.Proofs.YtcoddeemfdnjpaaDoorW.PrintMore
attribute [local go_sem] max2_int min2_int max_two min_two max_three min_three max_four min_four   -- for this text's walks alone
set_option linter.unusedVariables false
set_option linter.unusedSimpArgs false

/-! ### rollbookref13_Mapped: function 80 -/
def rollbookref13_Mapped.l0 : Nat → Bool → List Int → Int → List Int → Int → Option (List Int × Int)
  | 0, _, _, _, _, _ => none
  | k + 1, x1, x6, x7, x8, x9 => if x9 < (x6.length : Int) then (if 0 ≤ x9 then ((rollbookref13_Dropped.f (rd x6 x9)).bind fun t233 => (if t233 = true then (rollbookref13_Mapped.l0 k x1 x6 x7 x8 (wrap64 (x9 + 1))) else ((rollbookref13_Blank.f (rd x6 x9)).bind fun t234 => (if t234 = true then (if x8.length < 35184372088832 then (rollbookref13_Mapped.l0 k x1 x6 x7 (x8 ++ [32]) (wrap64 (x9 + 1))) else (none)) else (if x1 = true then ((rollbookref13_Small.f k (rd x6 x9)).bind fun t238 => (if x8.length < 35184372088832 then (rollbookref13_Mapped.l0 k x1 x6 x7 (x8 ++ [t238]) (wrap64 (x9 + 1))) else (none))) else (if x8.length < 35184372088832 then (rollbookref13_Mapped.l0 k x1 x6 x7 (x8 ++ [rd x6 x9]) (wrap64 (x9 + 1))) else (none))))))) else (none)) else (some (x8, x7))
def rollbookref13_Mapped.f (k : Nat) (a0 : ByteArray) (a1 : Bool) : Option (List Int × Int) := (rollbookref13_Runes.f k a0).bind fun bt225 => (rollbookref13_Mapped.l0 k a1 bt225.1 bt225.2 (([] : List Int)) 0)
theorem rollbookref13_Mapped.mono_l : ∀ k, (∀ y0 y1 y2 y3 y4, LeO (rollbookref13_Mapped.l0 k y0 y1 y2 y3 y4) (rollbookref13_Mapped.l0 (k + 1) y0 y1 y2 y3 y4))
  | 0 => fun _ _ _ _ _ r h => by simp [rollbookref13_Mapped.l0] at h
  | k + 1 => by
    have ih0 := rollbookref13_Mapped.mono_l k
    · intro y0 y1 y2 y3 y4
      unfold rollbookref13_Mapped.l0
      repeat' first
      | (with_reducible exact ih0 _ _ _ _ _)
      | (with_reducible exact rollbookref13_Runes.mono _ _)
      | (with_reducible exact rollbookref13_Small.mono _ _)
      | (with_reducible exact LeO.refl _)
      | (with_reducible exact LeO.none _)
      | (with_reducible refine LeO.ite ?_ ?_)
      | (with_reducible refine LeO.bind ?_ (fun _ => ?_))
      | exact ih0 _ _ _ _ _
      | exact rollbookref13_Runes.mono _ _
      | exact rollbookref13_Small.mono _ _
      | exact LeO.none _
      | refine LeO.ite ?_ ?_
      | refine LeO.bind ?_ (fun _ => ?_)
theorem rollbookref13_Mapped.mono : ∀ a0 a1 k, LeO (rollbookref13_Mapped.f k a0 a1) (rollbookref13_Mapped.f (k + 1) a0 a1) := by
  intro a0 a1 k
  have ih0 := rollbookref13_Mapped.mono_l k
  unfold rollbookref13_Mapped.f
  repeat' first
      | (with_reducible exact ih0 _ _ _ _ _)
      | (with_reducible exact rollbookref13_Runes.mono _ _)
      | (with_reducible exact rollbookref13_Small.mono _ _)
      | (with_reducible exact LeO.refl _)
      | (with_reducible exact LeO.none _)
      | (with_reducible refine LeO.ite ?_ ?_)
      | (with_reducible refine LeO.bind ?_ (fun _ => ?_))
      | exact ih0 _ _ _ _ _
      | exact rollbookref13_Runes.mono _ _
      | exact rollbookref13_Small.mono _ _
      | exact LeO.none _
      | refine LeO.ite ?_ ?_
      | refine LeO.bind ?_ (fun _ => ?_)
set_option maxHeartbeats 8000000 in
set_option maxRecDepth 100000 in
theorem rollbookref13_Mapped.calls (k : Nat) (a0 : ByteArray) (a1 : Bool) (r1 : List Int) (r2 : Int) (w : World) (h : rollbookref13_Mapped.f k a0 a1 = some (r1, r2)) :
    Calls Tryd.prog 80 #[.string a0, .bool a1] w fun e w' => ∃ v0_ : Value, e = .returned (.tuple #[v0_, .int .i64 r2]) ∧ Kd.R (Kd.int .i32) 21 w' w.heap.size (fun _ => True) v0_ r1 ∧ Below w.heap.size w w' := by
  have HB := Aside0.mk (Below.refl w.heap.size w)
  have H : ((rollbookref13_Runes.f k a0).bind fun bt225 => (rollbookref13_Mapped.l0 k a1 bt225.1 bt225.2 (([] : List Int)) 0)) = some (r1, r2) := h
  clear h
  replace H := Option.bind_eq_some_iff.mp H
  obtain ⟨⟨t225, t226⟩, A30, H⟩ := H
  replace H : (rollbookref13_Mapped.l0 k a1 t225 t226 (([] : List Int)) 0) = some (r1, r2) := H
  have A3 := Aside0.mk A30
  clear A30
  obtain ⟨y229, hy229⟩ : ∃ y_ : List Int, y_ = (([] : List Int)) := ⟨_, rfl⟩
  replace H : (rollbookref13_Mapped.l0 k a1 t225 t226 y229 0) = some (r1, r2) := by first | (rw [hy229]; with_reducible exact H) | (have H2_ := (Option.bind_some _ _).symm.trans H; rw [hy229]; with_reducible exact H2_) | (have H2_ := (Option.bind_some _ _).symm.trans H; with_reducible exact H2_) | with_reducible exact H | (rw [hy229]; exact H) | exact H
  have Ny229 := Aside0.mk hy229
  clear hy229
  have H' := Aside0.mk H
  clear H
  go_enter Tryd.func80, Tryd.ntmps80
  go_wp2_with (first | ((with_reducible refine gate_callee (f := 66) rfl ?_); refine goesL_ (some 13) rfl rfl Tryd.func66 (by kernel_rfl) rfl #[.string a0] rfl (by (try simp only [List.map_toArray, List.map_cons, List.map_nil]); first | done | rfl | (simp only [List.length_drop, List.length_take]; rfl)) ?_; (with_reducible refine (rollbookref13_Runes.calls k a0 t225 t226 _ A3.out).mono ?_); rintro e w4 ⟨v227, rfl, ho0, hb⟩; refine ⟨_, rfl, ?_⟩; have n0_ := Aside0.mk (Kd.R_lower ho0 (below_size (by repeat (first | (with_reducible first | exact HB.out | apply below_alloc | apply pw_below_drewN | apply below_drew1) | exact HB.out)))); have n1_ := Aside0.mk (below_step (by repeat (first | (with_reducible first | exact HB.out | apply below_alloc | apply pw_below_drewN | apply below_drew1) | exact HB.out)) hb); clear HB; have HO228 := n0_; have HB := n1_; clear n0_ n1_; (try clear hb); (try clear hb2); (try clear hk); (try clear hi); (try clear ho0)) | ((with_reducible refine gate_dst (N := 16) rfl ?_); refine Kd.R_lit (Kd.int .i32) _ 21 ?hg (N := 16) ?hd (xs := ([] : List Int)) (inner := []) (ok := fun _ => True) (okp := fun _ => True) ?hr ?hp (fun _ hk => hk) trivial (Below.refl _ _) (Nat.le_refl _) (by simp) ?_; (case hd => rfl); (case hg => rfl); (case hr => first | (go_simp; done) | (go_simp; rfl)); (case hp => exact (Reps.none _ _)); intro v230 w5 ho6 hb hg_ hnew_; clear hg_ hnew_; (first | rw [← Ny229.out] at ho6 | (simp only [Int.reduceToNat] at ho6; rw [← Ny229.out] at ho6)); have n0_ := Aside0.mk (Kd.R_elder' (by (with_reducible repeat (first | apply Kd.R_alloc | apply Kd.R_drewN | apply Kd.R_drew)); exact HO228.out) (Kd.R_base ho6) hb); have n1_ := Aside0.mk (Kd.R_lower (Kd.R_new' ho6 (Kd.R_lt (by (with_reducible repeat (first | apply Kd.R_alloc | apply Kd.R_drewN | apply Kd.R_drew)); exact HO228.out))) (below_size (by repeat (first | (with_reducible first | exact HB.out | apply below_alloc | apply pw_below_drewN | apply below_drew1) | exact HB.out)))); have n2_ := Aside0.mk (below_step (by repeat (first | (with_reducible first | exact HB.out | apply below_alloc | apply pw_below_drewN | apply below_drew1) | exact HB.out)) hb); clear HO228; clear HB; have HO228 := n0_; have HO231 := n1_; have HB := n2_; clear n0_ n1_ n2_; clear hb ho6))
  go_loopg [8, 9] k (fun kq v8 v9 w' => ∃ (x8_1 : List Int) (x9_1 : Int), v9 = .int .i64 x9_1 ∧ Aside0 (rollbookref13_Mapped.l0 kq a1 t225 t226 x8_1 x9_1 = some (r1, r2)) ∧ Aside0 (kq ≤ k) ∧ Aside0 (Kd.R (Kd.int .i32) 21 w' w.heap.size (fun k_ => some k_ ≠ (v8 : Value).ownBlock) v227 t225) ∧ Aside0 (Kd.R (Kd.int .i32) 21 w' w.heap.size (fun k_ => some k_ ≠ (v227 : Value).ownBlock) v8 x8_1) ∧ Aside0 (Below w.heap.size w w'))
  case atStart => exact ⟨(y229), (0), (by first | rfl | (simp; done) | (simp [*]; done)), H', ⟨Nat.le_refl _⟩, ⟨by (with_reducible repeat (first | apply Kd.R_alloc | apply Kd.R_drewN | apply Kd.R_drew)); exact Kd.R_mono HO228.out (fun _ hk => hk.2)⟩, ⟨by (with_reducible repeat (first | apply Kd.R_alloc | apply Kd.R_drewN | apply Kd.R_drew)); exact Kd.R_mono HO231.out (fun _ hk => hk.2)⟩, ⟨by repeat (first | (with_reducible first | exact HB.out | apply below_alloc | apply pw_below_drewN | apply below_drew1) | exact HB.out)⟩⟩
  case round =>
    clear H'
    try clear p2
    try clear c6
    obtain ⟨x8_1, x9_1, rfl, HA, HK1, HO_6, HO_8, HB⟩ := hrel
    cases gk with
    | zero => exact absurd HA.out (by simp [rollbookref13_Mapped.l0])
    | succ k1 =>
      have H := HA.out
      clear HA
      simp only [rollbookref13_Mapped.l0] at H
      by_cases c7 : x9_1 < (t225.length : Int)
      · rw [if_pos c7] at H
        have c7b0 : decide (x9_1 < (t225.length : Int)) = true := decide_eq_true c7
        clear c7
        by_cases c8 : 0 ≤ x9_1
        · rw [if_pos c8] at H
          have c8b0 : decide (0 ≤ x9_1) = true := decide_eq_true c8
          clear c8
          replace H := Option.bind_eq_some_iff.mp H
          obtain ⟨t233, A90, H⟩ := H
          replace H : (if t233 = true then (rollbookref13_Mapped.l0 k1 a1 t225 t226 x8_1 (wrap64 (x9_1 + 1))) else ((rollbookref13_Blank.f (rd t225 x9_1)).bind fun t234 => (if t234 = true then (if x8_1.length < 35184372088832 then (rollbookref13_Mapped.l0 k1 a1 t225 t226 (x8_1 ++ [32]) (wrap64 (x9_1 + 1))) else (none)) else (if a1 = true then ((rollbookref13_Small.f k1 (rd t225 x9_1)).bind fun t238 => (if x8_1.length < 35184372088832 then (rollbookref13_Mapped.l0 k1 a1 t225 t226 (x8_1 ++ [t238]) (wrap64 (x9_1 + 1))) else (none))) else (if x8_1.length < 35184372088832 then (rollbookref13_Mapped.l0 k1 a1 t225 t226 (x8_1 ++ [rd t225 x9_1]) (wrap64 (x9_1 + 1))) else (none)))))) = some (r1, r2) := H
          have A9 := Aside0.mk A90
          clear A90
          by_cases c10 : t233 = true
          · subst c10
            have H1 : (rollbookref13_Mapped.l0 k1 a1 t225 t226 x8_1 (wrap64 (x9_1 + 1))) = some (r1, r2) := by rw [if_pos rfl] at H; exact H
            clear H
            have H := H1
            clear H1
            have H' := Aside0.mk H
            clear H
            obtain ⟨Ao11, co11, eo11⟩ := Kd.R_slice HO_6.out
            subst eo11
            have p232 : 0 ≤ (x9_1 : Int) := of_decide_eq_true (by first | (with_reducible assumption) | assumption)
            have q232 : x9_1 < (t225.length : Int) := of_decide_eq_true (by first | (with_reducible assumption) | assumption)
            obtain ⟨ad232, e232, hx232_0⟩ := Kd.at_int (Kd.R_reads' HO_6.out).2.2 x9_1 p232 q232
            cases e232
            replace p232 := eq_true p232
            replace q232 := eq_true q232
            go_wp2_with (first | ((with_reducible refine gate_callee (f := 99) rfl ?_); refine goesL_ (some 28) rfl rfl Tryd.func99 (by kernel_rfl) rfl #[.int .i32 (rd t225 x9_1)] rfl (by (try simp only [List.map_toArray, List.map_cons, List.map_nil]); first | done | rfl | (simp only [List.length_drop, List.length_take]; rfl)) ?_; (with_reducible refine (rollbookref13_Dropped.calls (rd t225 x9_1) true _ A9.out).mono ?_); rintro e w' ⟨rfl, ⟨nd, rfl⟩⟩; refine ⟨_, rfl, ?_⟩))
            go_roundg k1
            case measure => have := HK1.out; omega
            case rel => exact ⟨(x8_1), (wrap64 (x9_1 + 1)), (by first | rfl | (simp; done) | (simp [*]; done)), H', ⟨by have := HK1.out; omega⟩, ⟨by (with_reducible repeat (first | apply Kd.R_alloc | apply Kd.R_drewN | apply Kd.R_drew)); exact HO_6.out⟩, ⟨by (with_reducible repeat (first | apply Kd.R_alloc | apply Kd.R_drewN | apply Kd.R_drew)); exact HO_8.out⟩, ⟨by repeat (first | (with_reducible first | exact HB.out | apply below_alloc | apply pw_below_drewN | apply below_drew1) | exact HB.out)⟩⟩
          · replace c10 := Bool.eq_false_iff.mpr c10
            subst c10
            have H1 : ((rollbookref13_Blank.f (rd t225 x9_1)).bind fun t234 => (if t234 = true then (if x8_1.length < 35184372088832 then (rollbookref13_Mapped.l0 k1 a1 t225 t226 (x8_1 ++ [32]) (wrap64 (x9_1 + 1))) else (none)) else (if a1 = true then ((rollbookref13_Small.f k1 (rd t225 x9_1)).bind fun t238 => (if x8_1.length < 35184372088832 then (rollbookref13_Mapped.l0 k1 a1 t225 t226 (x8_1 ++ [t238]) (wrap64 (x9_1 + 1))) else (none))) else (if x8_1.length < 35184372088832 then (rollbookref13_Mapped.l0 k1 a1 t225 t226 (x8_1 ++ [rd t225 x9_1]) (wrap64 (x9_1 + 1))) else (none))))) = some (r1, r2) := by rw [if_neg (show ¬ (false = true) by decide)] at H; exact H
            clear H
            have H := H1
            clear H1
            replace H := Option.bind_eq_some_iff.mp H
            obtain ⟨t234, A120, H⟩ := H
            replace H : (if t234 = true then (if x8_1.length < 35184372088832 then (rollbookref13_Mapped.l0 k1 a1 t225 t226 (x8_1 ++ [32]) (wrap64 (x9_1 + 1))) else (none)) else (if a1 = true then ((rollbookref13_Small.f k1 (rd t225 x9_1)).bind fun t238 => (if x8_1.length < 35184372088832 then (rollbookref13_Mapped.l0 k1 a1 t225 t226 (x8_1 ++ [t238]) (wrap64 (x9_1 + 1))) else (none))) else (if x8_1.length < 35184372088832 then (rollbookref13_Mapped.l0 k1 a1 t225 t226 (x8_1 ++ [rd t225 x9_1]) (wrap64 (x9_1 + 1))) else (none)))) = some (r1, r2) := H
            have A12 := Aside0.mk A120
            clear A120
            by_cases c13 : t234 = true
            · subst c13
              have H1 : (if x8_1.length < 35184372088832 then (rollbookref13_Mapped.l0 k1 a1 t225 t226 (x8_1 ++ [32]) (wrap64 (x9_1 + 1))) else (none)) = some (r1, r2) := by rw [if_pos rfl] at H; exact H
              clear H
              have H := H1
              clear H1
              by_cases c14 : x8_1.length < 35184372088832
              · rw [if_pos c14] at H
                have LMc14 := Aside0.mk c14
                clear c14
                obtain ⟨y235, hy235⟩ : ∃ y_ : List Int, y_ = (x8_1 ++ [32]) := ⟨_, rfl⟩
                replace H : (rollbookref13_Mapped.l0 k1 a1 t225 t226 y235 (wrap64 (x9_1 + 1))) = some (r1, r2) := by first | (rw [hy235]; with_reducible exact H) | (have H2_ := (Option.bind_some _ _).symm.trans H; rw [hy235]; with_reducible exact H2_) | (have H2_ := (Option.bind_some _ _).symm.trans H; with_reducible exact H2_) | with_reducible exact H | (rw [hy235]; exact H) | exact H
                have Ny235 := Aside0.mk hy235
                clear hy235
                have H' := Aside0.mk H
                clear H
                obtain ⟨Ao15, co15, eo15⟩ := Kd.R_slice HO_6.out
                subst eo15
                have p232 : 0 ≤ (x9_1 : Int) := of_decide_eq_true (by first | (with_reducible assumption) | assumption)
                have q232 : x9_1 < (t225.length : Int) := of_decide_eq_true (by first | (with_reducible assumption) | assumption)
                obtain ⟨ad232, e232, hx232_0⟩ := Kd.at_int (Kd.R_reads' HO_6.out).2.2 x9_1 p232 q232
                cases e232
                replace p232 := eq_true p232
                replace q232 := eq_true q232
                go_wp2_with (first | ((with_reducible refine gate_callee (f := 99) rfl ?_); refine goesL_ (some 28) rfl rfl Tryd.func99 (by kernel_rfl) rfl #[.int .i32 (rd t225 x9_1)] rfl (by (try simp only [List.map_toArray, List.map_cons, List.map_nil]); first | done | rfl | (simp only [List.length_drop, List.length_take]; rfl)) ?_; (with_reducible refine (rollbookref13_Dropped.calls (rd t225 x9_1) false _ A9.out).mono ?_); rintro e w' ⟨rfl, ⟨nd, rfl⟩⟩; refine ⟨_, rfl, ?_⟩) | ((with_reducible refine gate_callee (f := 100) rfl ?_); refine goesL_ (some 30) rfl rfl Tryd.func100 (by kernel_rfl) rfl #[.int .i32 (rd t225 x9_1)] rfl (by (try simp only [List.map_toArray, List.map_cons, List.map_nil]); first | done | rfl | (simp only [List.length_drop, List.length_take]; rfl)) ?_; (with_reducible refine (rollbookref13_Blank.calls (rd t225 x9_1) true _ A12.out).mono ?_); rintro e w' ⟨rfl, ⟨nd, rfl⟩⟩; refine ⟨_, rfl, ?_⟩) | ((with_reducible refine gate_builtin (b := .append) (xs := #[.tmp 34, .tmp 36]) rfl ?_); at_builtin; refine Kd.R_append (Kd.int .i32) (w0 := w) w.heap.size rfl (.tmp 34) (.tmp 36) 41 21 (.int .i32 0) 4 rfl Tryd.underlying41 info21 rfl (by decide) (by omega) u8 x8_1 32 [.int .i32 32] (fun k_ => some k_ ≠ (.slice (some ad232) t225.length co15 : Value).ownBlock) (fun _ => False) rfl rfl ?aP (fun _ hk => hk.elim) ?aF ?aO ?aB ?aS ?aL ?_; (case aP => exact rfl); (case aB => exact (by repeat (first | (with_reducible first | exact HB.out | apply below_alloc | apply pw_below_drewN | apply below_drew1) | exact HB.out))); (case aF => exact (fun k_ hk => Kd.fresh' (Kd.R_lt (by (with_reducible repeat (first | apply Kd.R_alloc | apply Kd.R_drewN | apply Kd.R_drew)); exact HO_6.out)) k_ hk)); (case aO => exact (by (with_reducible repeat (first | apply Kd.R_alloc | apply Kd.R_drewN | apply Kd.R_drew)); exact HO_8.out)); (case aS => exact (below_size (by repeat (first | (with_reducible first | exact HB.out | apply below_alloc | apply pw_below_drewN | apply below_drew1) | exact HB.out)))); (case aL => have := LMc14.out; omega); intro v236 w16 ho hb hg hat; rw [← Ny235.out] at ho; have n0_ := Aside0.mk (Kd.R_after (ok := (fun _ => True)) (by (with_reducible repeat (first | apply Kd.R_alloc | apply Kd.R_drewN | apply Kd.R_drew)); exact Kd.R_mono HO_6.out (fun _ hk => ⟨trivial, hk⟩)) hg hat); have n1_ := Aside0.mk (hb); have n2_ := Aside0.mk (ho); clear HO_6; clear HB; clear HO_8; have HO_6 := n0_; have HB := n1_; have HO237 := n2_; clear n0_ n1_ n2_; clear ho hb hg hat))
                go_roundg k1
                case measure => have := HK1.out; omega
                case rel => exact ⟨(y235), (wrap64 (x9_1 + 1)), (by first | rfl | (simp; done) | (simp [*]; done)), H', ⟨by have := HK1.out; omega⟩, ⟨by (with_reducible repeat (first | apply Kd.R_alloc | apply Kd.R_drewN | apply Kd.R_drew)); exact Kd.R_mono HO_6.out (fun _ hk => hk.2)⟩, ⟨by (with_reducible repeat (first | apply Kd.R_alloc | apply Kd.R_drewN | apply Kd.R_drew)); exact HO237.out⟩, ⟨by repeat (first | (with_reducible first | exact HB.out | apply below_alloc | apply pw_below_drewN | apply below_drew1) | exact HB.out)⟩⟩
              · rw [if_neg c14] at H
                exact absurd H (by simp)
            · replace c13 := Bool.eq_false_iff.mpr c13
              subst c13
              have H1 : (if a1 = true then ((rollbookref13_Small.f k1 (rd t225 x9_1)).bind fun t238 => (if x8_1.length < 35184372088832 then (rollbookref13_Mapped.l0 k1 a1 t225 t226 (x8_1 ++ [t238]) (wrap64 (x9_1 + 1))) else (none))) else (if x8_1.length < 35184372088832 then (rollbookref13_Mapped.l0 k1 a1 t225 t226 (x8_1 ++ [rd t225 x9_1]) (wrap64 (x9_1 + 1))) else (none))) = some (r1, r2) := by rw [if_neg (show ¬ (false = true) by decide)] at H; exact H
              clear H
              have H := H1
              clear H1
              by_cases c17 : a1 = true
              · subst c17
                have H1 : ((rollbookref13_Small.f k1 (rd t225 x9_1)).bind fun t238 => (if x8_1.length < 35184372088832 then (rollbookref13_Mapped.l0 k1 true t225 t226 (x8_1 ++ [t238]) (wrap64 (x9_1 + 1))) else (none))) = some (r1, r2) := by rw [if_pos rfl] at H; exact H
                clear H
                have H := H1
                clear H1
                replace H := Option.bind_eq_some_iff.mp H
                obtain ⟨t238, A180, H⟩ := H
                replace H : (if x8_1.length < 35184372088832 then (rollbookref13_Mapped.l0 k1 true t225 t226 (x8_1 ++ [t238]) (wrap64 (x9_1 + 1))) else (none)) = some (r1, r2) := H
                have A18 := Aside0.mk A180
                clear A180
                by_cases c19 : x8_1.length < 35184372088832
                · rw [if_pos c19] at H
                  have LMc19 := Aside0.mk c19
                  clear c19
                  obtain ⟨y239, hy239⟩ : ∃ y_ : List Int, y_ = (x8_1 ++ [t238]) := ⟨_, rfl⟩
                  replace H : (rollbookref13_Mapped.l0 k1 true t225 t226 y239 (wrap64 (x9_1 + 1))) = some (r1, r2) := by first | (rw [hy239]; with_reducible exact H) | (have H2_ := (Option.bind_some _ _).symm.trans H; rw [hy239]; with_reducible exact H2_) | (have H2_ := (Option.bind_some _ _).symm.trans H; with_reducible exact H2_) | with_reducible exact H | (rw [hy239]; exact H) | exact H
                  have Ny239 := Aside0.mk hy239
                  clear hy239
                  have H' := Aside0.mk H
                  clear H
                  obtain ⟨Ao20, co20, eo20⟩ := Kd.R_slice HO_6.out
                  subst eo20
                  have p232 : 0 ≤ (x9_1 : Int) := of_decide_eq_true (by first | (with_reducible assumption) | assumption)
                  have q232 : x9_1 < (t225.length : Int) := of_decide_eq_true (by first | (with_reducible assumption) | assumption)
                  obtain ⟨ad232, e232, hx232_0⟩ := Kd.at_int (Kd.R_reads' HO_6.out).2.2 x9_1 p232 q232
                  cases e232
                  replace p232 := eq_true p232
                  replace q232 := eq_true q232
                  go_wp2_with (first | ((with_reducible refine gate_callee (f := 99) rfl ?_); refine goesL_ (some 28) rfl rfl Tryd.func99 (by kernel_rfl) rfl #[.int .i32 (rd t225 x9_1)] rfl (by (try simp only [List.map_toArray, List.map_cons, List.map_nil]); first | done | rfl | (simp only [List.length_drop, List.length_take]; rfl)) ?_; (with_reducible refine (rollbookref13_Dropped.calls (rd t225 x9_1) false _ A9.out).mono ?_); rintro e w' ⟨rfl, ⟨nd, rfl⟩⟩; refine ⟨_, rfl, ?_⟩) | ((with_reducible refine gate_callee (f := 100) rfl ?_); refine goesL_ (some 30) rfl rfl Tryd.func100 (by kernel_rfl) rfl #[.int .i32 (rd t225 x9_1)] rfl (by (try simp only [List.map_toArray, List.map_cons, List.map_nil]); first | done | rfl | (simp only [List.length_drop, List.length_take]; rfl)) ?_; (with_reducible refine (rollbookref13_Blank.calls (rd t225 x9_1) false _ A12.out).mono ?_); rintro e w' ⟨rfl, ⟨nd, rfl⟩⟩; refine ⟨_, rfl, ?_⟩) | ((with_reducible refine gate_callee (f := 101) rfl ?_); refine goesL_ (some 33) rfl rfl Tryd.func101 (by kernel_rfl) rfl #[.int .i32 (rd t225 x9_1)] rfl (by (try simp only [List.map_toArray, List.map_cons, List.map_nil]); first | done | rfl | (simp only [List.length_drop, List.length_take]; rfl)) ?_; (with_reducible refine (rollbookref13_Small.calls k1 (rd t225 x9_1) t238 _ A18.out).mono ?_); rintro e w' ⟨rfl, ⟨nd, rfl⟩⟩; refine ⟨_, rfl, ?_⟩) | ((with_reducible refine gate_builtin (b := .append) (xs := #[.tmp 34, .tmp 36]) rfl ?_); at_builtin; refine Kd.R_append (Kd.int .i32) (w0 := w) w.heap.size rfl (.tmp 34) (.tmp 36) 41 21 (.int .i32 0) 4 rfl Tryd.underlying41 info21 rfl (by decide) (by omega) u8 x8_1 t238 [.int .i32 t238] (fun k_ => some k_ ≠ (.slice (some ad232) t225.length co20 : Value).ownBlock) (fun _ => False) rfl rfl ?aP (fun _ hk => hk.elim) ?aF ?aO ?aB ?aS ?aL ?_; (case aP => exact rfl); (case aB => exact (by repeat (first | (with_reducible first | exact HB.out | apply below_alloc | apply pw_below_drewN | apply below_drew1) | exact HB.out))); (case aF => exact (fun k_ hk => Kd.fresh' (Kd.R_lt (by (with_reducible repeat (first | apply Kd.R_alloc | apply Kd.R_drewN | apply Kd.R_drew)); exact HO_6.out)) k_ hk)); (case aO => exact (by (with_reducible repeat (first | apply Kd.R_alloc | apply Kd.R_drewN | apply Kd.R_drew)); exact HO_8.out)); (case aS => exact (below_size (by repeat (first | (with_reducible first | exact HB.out | apply below_alloc | apply pw_below_drewN | apply below_drew1) | exact HB.out)))); (case aL => have := LMc19.out; omega); intro v240 w21 ho hb hg hat; rw [← Ny239.out] at ho; have n0_ := Aside0.mk (Kd.R_after (ok := (fun _ => True)) (by (with_reducible repeat (first | apply Kd.R_alloc | apply Kd.R_drewN | apply Kd.R_drew)); exact Kd.R_mono HO_6.out (fun _ hk => ⟨trivial, hk⟩)) hg hat); have n1_ := Aside0.mk (hb); have n2_ := Aside0.mk (ho); clear HO_6; clear HB; clear HO_8; have HO_6 := n0_; have HB := n1_; have HO241 := n2_; clear n0_ n1_ n2_; clear ho hb hg hat))
                  go_roundg k1
                  case measure => have := HK1.out; omega
                  case rel => exact ⟨(y239), (wrap64 (x9_1 + 1)), (by first | rfl | (simp; done) | (simp [*]; done)), H', ⟨by have := HK1.out; omega⟩, ⟨by (with_reducible repeat (first | apply Kd.R_alloc | apply Kd.R_drewN | apply Kd.R_drew)); exact Kd.R_mono HO_6.out (fun _ hk => hk.2)⟩, ⟨by (with_reducible repeat (first | apply Kd.R_alloc | apply Kd.R_drewN | apply Kd.R_drew)); exact HO241.out⟩, ⟨by repeat (first | (with_reducible first | exact HB.out | apply below_alloc | apply pw_below_drewN | apply below_drew1) | exact HB.out)⟩⟩
                · rw [if_neg c19] at H
                  exact absurd H (by simp)
              · replace c17 := Bool.eq_false_iff.mpr c17
                subst c17
                have H1 : (if x8_1.length < 35184372088832 then (rollbookref13_Mapped.l0 k1 false t225 t226 (x8_1 ++ [rd t225 x9_1]) (wrap64 (x9_1 + 1))) else (none)) = some (r1, r2) := by rw [if_neg (show ¬ (false = true) by decide)] at H; exact H
                clear H
                have H := H1
                clear H1
                by_cases c22 : x8_1.length < 35184372088832
                · rw [if_pos c22] at H
                  have LMc22 := Aside0.mk c22
                  clear c22
                  obtain ⟨y242, hy242⟩ : ∃ y_ : List Int, y_ = (x8_1 ++ [rd t225 x9_1]) := ⟨_, rfl⟩
                  replace H : (rollbookref13_Mapped.l0 k1 false t225 t226 y242 (wrap64 (x9_1 + 1))) = some (r1, r2) := by first | (rw [hy242]; with_reducible exact H) | (have H2_ := (Option.bind_some _ _).symm.trans H; rw [hy242]; with_reducible exact H2_) | (have H2_ := (Option.bind_some _ _).symm.trans H; with_reducible exact H2_) | with_reducible exact H | (rw [hy242]; exact H) | exact H
                  have Ny242 := Aside0.mk hy242
                  clear hy242
                  have H' := Aside0.mk H
                  clear H
                  obtain ⟨Ao23, co23, eo23⟩ := Kd.R_slice HO_6.out
                  subst eo23
                  have p232 : 0 ≤ (x9_1 : Int) := of_decide_eq_true (by first | (with_reducible assumption) | assumption)
                  have q232 : x9_1 < (t225.length : Int) := of_decide_eq_true (by first | (with_reducible assumption) | assumption)
                  obtain ⟨ad232, e232, hx232_0⟩ := Kd.at_int (Kd.R_reads' HO_6.out).2.2 x9_1 p232 q232
                  cases e232
                  replace p232 := eq_true p232
                  replace q232 := eq_true q232
                  go_wp2_with (first | ((with_reducible refine gate_callee (f := 99) rfl ?_); refine goesL_ (some 28) rfl rfl Tryd.func99 (by kernel_rfl) rfl #[.int .i32 (rd t225 x9_1)] rfl (by (try simp only [List.map_toArray, List.map_cons, List.map_nil]); first | done | rfl | (simp only [List.length_drop, List.length_take]; rfl)) ?_; (with_reducible refine (rollbookref13_Dropped.calls (rd t225 x9_1) false _ A9.out).mono ?_); rintro e w' ⟨rfl, ⟨nd, rfl⟩⟩; refine ⟨_, rfl, ?_⟩) | ((with_reducible refine gate_callee (f := 100) rfl ?_); refine goesL_ (some 30) rfl rfl Tryd.func100 (by kernel_rfl) rfl #[.int .i32 (rd t225 x9_1)] rfl (by (try simp only [List.map_toArray, List.map_cons, List.map_nil]); first | done | rfl | (simp only [List.length_drop, List.length_take]; rfl)) ?_; (with_reducible refine (rollbookref13_Blank.calls (rd t225 x9_1) false _ A12.out).mono ?_); rintro e w' ⟨rfl, ⟨nd, rfl⟩⟩; refine ⟨_, rfl, ?_⟩) | ((with_reducible refine gate_builtin (b := .append) (xs := #[.tmp 34, .tmp 36]) rfl ?_); at_builtin; refine Kd.R_append (Kd.int .i32) (w0 := w) w.heap.size rfl (.tmp 34) (.tmp 36) 41 21 (.int .i32 0) 4 rfl Tryd.underlying41 info21 rfl (by decide) (by omega) u8 x8_1 (rd t225 x9_1) [.int .i32 (rd t225 x9_1)] (fun k_ => some k_ ≠ (.slice (some ad232) t225.length co23 : Value).ownBlock) (fun _ => False) rfl rfl ?aP (fun _ hk => hk.elim) ?aF ?aO ?aB ?aS ?aL ?_; (case aP => exact rfl); (case aB => exact (by repeat (first | (with_reducible first | exact HB.out | apply below_alloc | apply pw_below_drewN | apply below_drew1) | exact HB.out))); (case aF => exact (fun k_ hk => Kd.fresh' (Kd.R_lt (by (with_reducible repeat (first | apply Kd.R_alloc | apply Kd.R_drewN | apply Kd.R_drew)); exact HO_6.out)) k_ hk)); (case aO => exact (by (with_reducible repeat (first | apply Kd.R_alloc | apply Kd.R_drewN | apply Kd.R_drew)); exact HO_8.out)); (case aS => exact (below_size (by repeat (first | (with_reducible first | exact HB.out | apply below_alloc | apply pw_below_drewN | apply below_drew1) | exact HB.out)))); (case aL => have := LMc22.out; omega); intro v243 w24 ho hb hg hat; rw [← Ny242.out] at ho; have n0_ := Aside0.mk (Kd.R_after (ok := (fun _ => True)) (by (with_reducible repeat (first | apply Kd.R_alloc | apply Kd.R_drewN | apply Kd.R_drew)); exact Kd.R_mono HO_6.out (fun _ hk => ⟨trivial, hk⟩)) hg hat); have n1_ := Aside0.mk (hb); have n2_ := Aside0.mk (ho); clear HO_6; clear HB; clear HO_8; have HO_6 := n0_; have HB := n1_; have HO244 := n2_; clear n0_ n1_ n2_; clear ho hb hg hat))
                  go_roundg k1
                  case measure => have := HK1.out; omega
                  case rel => exact ⟨(y242), (wrap64 (x9_1 + 1)), (by first | rfl | (simp; done) | (simp [*]; done)), H', ⟨by have := HK1.out; omega⟩, ⟨by (with_reducible repeat (first | apply Kd.R_alloc | apply Kd.R_drewN | apply Kd.R_drew)); exact Kd.R_mono HO_6.out (fun _ hk => hk.2)⟩, ⟨by (with_reducible repeat (first | apply Kd.R_alloc | apply Kd.R_drewN | apply Kd.R_drew)); exact HO244.out⟩, ⟨by repeat (first | (with_reducible first | exact HB.out | apply below_alloc | apply pw_below_drewN | apply below_drew1) | exact HB.out)⟩⟩
                · rw [if_neg c22] at H
                  exact absurd H (by simp)
        · rw [if_neg c8] at H
          exact absurd H (by simp)
      · rw [if_neg c7] at H
        have c7b0 : decide (x9_1 < (t225.length : Int)) = false := decide_eq_false c7
        clear c7
        simp only [Option.some.injEq, Prod.mk.injEq] at H
        obtain ⟨rfl, rfl⟩ := H
        obtain ⟨Ao25, co25, eo25⟩ := Kd.R_slice HO_6.out
        subst eo25
        go_wp2
        go_ret2
        exact ⟨_, by first | rfl | (simp [errW_none, errW_some] <;> rfl) | (simp [*, errW_none, errW_some] <;> rfl), by (with_reducible repeat (first | apply Kd.R_alloc | apply Kd.R_drewN | apply Kd.R_drew)); exact Kd.R_mono HO_8.out (fun _ hk => trivial), by repeat (first | (with_reducible first | exact HB.out | apply below_alloc | apply pw_below_drewN | apply below_drew1) | exact HB.out)⟩

end Go.Proofs.YtcoddeemfdnjpaaDoor.Fn
namespace Go.Proofs.YtcoddeemfdnjpaaDoor.Fn
open Go.RowKit Go.Proofs.YtcoddeemfdnjpaaDoorW.PrintWords Go.Proofs.YtcoddeemfdnjpaaDoorW.PrintLast Go.Proofs.YtcoddeemfdnjpaaDoorW.PrintMore
attribute [local go_sem] max2_int min2_int max_two min_two max_three min_three max_four min_four   -- for this text's walks alone
set_option linter.unusedVariables false
set_option linter.unusedSimpArgs false

/-! ### rollbookref13_Ready: function 33 -/
def rollbookref13_Ready.l0 : Nat → List Int → List Int → Int → Option (ByteArray × Int)
  | 0, _, _, _ => none
  | k + 1, x6, x8, x9 => if x9 < (x6.length : Int) then (if 0 ≤ x9 then (if (rd x6 x9) = 32 then (if (x8.length : Int) > 0 then (if (wrap64 (x9 + 1)) < (x6.length : Int) then (if 0 ≤ (wrap64 (x9 + 1)) then (if (rd x6 (wrap64 (x9 + 1))) = 32 then (rollbookref13_Ready.l0 k x6 x8 (wrap64 (x9 + 1))) else (if x8.length < 35184372088832 then (rollbookref13_Ready.l0 k x6 (x8 ++ [rd x6 x9]) (wrap64 (x9 + 1))) else (none))) else (none)) else (rollbookref13_Ready.l0 k x6 x8 (wrap64 (x9 + 1)))) else (rollbookref13_Ready.l0 k x6 x8 (wrap64 (x9 + 1)))) else (if x8.length < 35184372088832 then (rollbookref13_Ready.l0 k x6 (x8 ++ [rd x6 x9]) (wrap64 (x9 + 1))) else (none))) else (none)) else ((rollbookref13_Text.f k x8).bind fun t262 => (some (t262, 0)))
def rollbookref13_Ready.f (k : Nat) (a0 : ByteArray) (a1 : Bool) : Option (ByteArray × Int) := (rollbookref13_Mapped.f k a0 a1).bind fun bt245 => (if bt245.2 = 0 then (rollbookref13_Ready.l0 k bt245.1 (([] : List Int)) 0) else (some ((⟨#[]⟩ : ByteArray), bt245.2)))
theorem rollbookref13_Ready.mono_l : ∀ k, (∀ y0 y1 y2, LeO (rollbookref13_Ready.l0 k y0 y1 y2) (rollbookref13_Ready.l0 (k + 1) y0 y1 y2))
  | 0 => fun _ _ _ r h => by simp [rollbookref13_Ready.l0] at h
  | k + 1 => by
    have ih0 := rollbookref13_Ready.mono_l k
    · intro y0 y1 y2
      unfold rollbookref13_Ready.l0
      repeat' first
      | (with_reducible exact ih0 _ _ _)
      | (with_reducible exact rollbookref13_Mapped.mono _ _ _)
      | (with_reducible exact rollbookref13_Text.mono _ _)
      | (with_reducible exact LeO.refl _)
      | (with_reducible exact LeO.none _)
      | (with_reducible refine LeO.ite ?_ ?_)
      | (with_reducible refine LeO.bind ?_ (fun _ => ?_))
      | exact ih0 _ _ _
      | exact rollbookref13_Mapped.mono _ _ _
      | exact rollbookref13_Text.mono _ _
      | exact LeO.none _
      | refine LeO.ite ?_ ?_
      | refine LeO.bind ?_ (fun _ => ?_)
theorem rollbookref13_Ready.mono : ∀ a0 a1 k, LeO (rollbookref13_Ready.f k a0 a1) (rollbookref13_Ready.f (k + 1) a0 a1) := by
  intro a0 a1 k
  have ih0 := rollbookref13_Ready.mono_l k
  unfold rollbookref13_Ready.f
  repeat' first
      | (with_reducible exact ih0 _ _ _)
      | (with_reducible exact rollbookref13_Mapped.mono _ _ _)
      | (with_reducible exact rollbookref13_Text.mono _ _)
      | (with_reducible exact LeO.refl _)
      | (with_reducible exact LeO.none _)
      | (with_reducible refine LeO.ite ?_ ?_)
      | (with_reducible refine LeO.bind ?_ (fun _ => ?_))
      | exact ih0 _ _ _
      | exact rollbookref13_Mapped.mono _ _ _
      | exact rollbookref13_Text.mono _ _
      | exact LeO.none _
      | refine LeO.ite ?_ ?_
      | refine LeO.bind ?_ (fun _ => ?_)
set_option maxHeartbeats 8000000 in
set_option maxRecDepth 100000 in
theorem rollbookref13_Ready.calls (k : Nat) (a0 : ByteArray) (a1 : Bool) (r1 : ByteArray) (r2 : Int) (w : World) (h : rollbookref13_Ready.f k a0 a1 = some (r1, r2)) :
    Calls Tryd.prog 33 #[.string a0, .bool a1] w fun e w' => e = .returned (.tuple #[.string r1, .int .i64 r2]) ∧ Below w.heap.size w w' := by
  have HB := Aside0.mk (Below.refl w.heap.size w)
  have H : ((rollbookref13_Mapped.f k a0 a1).bind fun bt245 => (if bt245.2 = 0 then (rollbookref13_Ready.l0 k bt245.1 (([] : List Int)) 0) else (some ((⟨#[]⟩ : ByteArray), bt245.2)))) = some (r1, r2) := h
  clear h
  replace H := Option.bind_eq_some_iff.mp H
  obtain ⟨⟨t245, t246⟩, A30, H⟩ := H
  replace H : (if t246 = 0 then (rollbookref13_Ready.l0 k t245 (([] : List Int)) 0) else (some ((⟨#[]⟩ : ByteArray), t246))) = some (r1, r2) := H
  have A3 := Aside0.mk A30
  clear A30
  by_cases c4 : t246 = 0
  · rw [if_pos c4] at H
    have c4b0 : (t246 == 0) = true := beq_iff_eq.mpr c4
    have c4b1 : (t246 != 0) = false := bne_eq_false_iff_eq.mpr c4
    clear c4
    obtain ⟨y249, hy249⟩ : ∃ y_ : List Int, y_ = (([] : List Int)) := ⟨_, rfl⟩
    replace H : (rollbookref13_Ready.l0 k t245 y249 0) = some (r1, r2) := by first | (rw [hy249]; with_reducible exact H) | (have H2_ := (Option.bind_some _ _).symm.trans H; rw [hy249]; with_reducible exact H2_) | (have H2_ := (Option.bind_some _ _).symm.trans H; with_reducible exact H2_) | with_reducible exact H | (rw [hy249]; exact H) | exact H
    have Ny249 := Aside0.mk hy249
    clear hy249
    have H' := Aside0.mk H
    clear H
    go_enter Tryd.func33, Tryd.ntmps33
    go_wp2_with (first | ((with_reducible refine gate_callee (f := 80) rfl ?_); refine goesL_ (some 13) rfl rfl Tryd.func80 (by kernel_rfl) rfl #[.string a0, .bool a1] rfl (by (try simp only [List.map_toArray, List.map_cons, List.map_nil]); first | done | rfl | (simp only [List.length_drop, List.length_take]; rfl)) ?_; (with_reducible refine (rollbookref13_Mapped.calls k a0 a1 t245 t246 _ A3.out).mono ?_); rintro e w5 ⟨v247, rfl, ho0, hb⟩; refine ⟨_, rfl, ?_⟩; have n0_ := Aside0.mk (Kd.R_lower ho0 (below_size (by repeat (first | (with_reducible first | exact HB.out | apply below_alloc | apply pw_below_drewN | apply below_drew1) | exact HB.out)))); have n1_ := Aside0.mk (below_step (by repeat (first | (with_reducible first | exact HB.out | apply below_alloc | apply pw_below_drewN | apply below_drew1) | exact HB.out)) hb); clear HB; have HO248 := n0_; have HB := n1_; clear n0_ n1_; (try clear hb); (try clear hb2); (try clear hk); (try clear hi); (try clear ho0)) | ((with_reducible refine gate_dst (N := 19) rfl ?_); (try (refine gate_guard (by rfl) ?_; dsimp only)); refine Kd.R_lit (Kd.int .i32) _ 21 ?hg (N := 19) ?hd (xs := ([] : List Int)) (inner := []) (ok := fun _ => True) (okp := fun _ => True) ?hr ?hp (fun _ hk => hk) trivial (Below.refl _ _) (Nat.le_refl _) (by simp) ?_; (case hd => rfl); (case hg => rfl); (case hr => first | (go_simp; done) | (go_simp; rfl)); (case hp => exact (Reps.none _ _)); intro v250 w6 ho7 hb hg_ hnew_; clear hg_ hnew_; (first | rw [← Ny249.out] at ho7 | (simp only [Int.reduceToNat] at ho7; rw [← Ny249.out] at ho7)); have n0_ := Aside0.mk (Kd.R_elder' (by (with_reducible repeat (first | apply Kd.R_alloc | apply Kd.R_drewN | apply Kd.R_drew)); exact HO248.out) (Kd.R_base ho7) hb); have n1_ := Aside0.mk (Kd.R_lower (Kd.R_new' ho7 (Kd.R_lt (by (with_reducible repeat (first | apply Kd.R_alloc | apply Kd.R_drewN | apply Kd.R_drew)); exact HO248.out))) (below_size (by repeat (first | (with_reducible first | exact HB.out | apply below_alloc | apply pw_below_drewN | apply below_drew1) | exact HB.out)))); have n2_ := Aside0.mk (below_step (by repeat (first | (with_reducible first | exact HB.out | apply below_alloc | apply pw_below_drewN | apply below_drew1) | exact HB.out)) hb); clear HO248; clear HB; have HO248 := n0_; have HO251 := n1_; have HB := n2_; clear n0_ n1_ n2_; clear hb ho7))
    go_loopg [8, 9] k (fun kq v8 v9 w' => ∃ (x8_1 : List Int) (x9_1 : Int), v9 = .int .i64 x9_1 ∧ Aside0 (rollbookref13_Ready.l0 kq t245 x8_1 x9_1 = some (r1, r2)) ∧ Aside0 (kq ≤ k) ∧ Aside0 (Kd.R (Kd.int .i32) 21 w' w.heap.size (fun k_ => some k_ ≠ (v8 : Value).ownBlock) v247 t245) ∧ Aside0 (Kd.R (Kd.int .i32) 21 w' w.heap.size (fun k_ => some k_ ≠ (v247 : Value).ownBlock) v8 x8_1) ∧ Aside0 (Below w.heap.size w w'))
    case atStart => exact ⟨(y249), (0), (by first | rfl | (simp; done) | (simp [*]; done)), H', ⟨Nat.le_refl _⟩, ⟨by (with_reducible repeat (first | apply Kd.R_alloc | apply Kd.R_drewN | apply Kd.R_drew)); exact Kd.R_mono HO248.out (fun _ hk => hk.2)⟩, ⟨by (with_reducible repeat (first | apply Kd.R_alloc | apply Kd.R_drewN | apply Kd.R_drew)); exact Kd.R_mono HO251.out (fun _ hk => hk.2)⟩, ⟨by repeat (first | (with_reducible first | exact HB.out | apply below_alloc | apply pw_below_drewN | apply below_drew1) | exact HB.out)⟩⟩
    case round =>
      clear H'
      try clear p2
      try clear c3
      try clear c4
      try clear c4b0
      try clear c4b1
      obtain ⟨x8_1, x9_1, rfl, HA, HK1, HO_6, HO_8, HB⟩ := hrel
      cases gk with
      | zero => exact absurd HA.out (by simp [rollbookref13_Ready.l0])
      | succ k1 =>
        have H := HA.out
        clear HA
        simp only [rollbookref13_Ready.l0] at H
        by_cases c8 : x9_1 < (t245.length : Int)
        · rw [if_pos c8] at H
          have c8b0 : decide (x9_1 < (t245.length : Int)) = true := decide_eq_true c8
          clear c8
          by_cases c9 : 0 ≤ x9_1
          · rw [if_pos c9] at H
            have c9b0 : decide (0 ≤ x9_1) = true := decide_eq_true c9
            clear c9
            by_cases c10 : (rd t245 x9_1) = 32
            · rw [if_pos c10] at H
              have c10b0 : ((rd t245 x9_1) == 32) = true := beq_iff_eq.mpr c10
              have c10b1 : ((rd t245 x9_1) != 32) = false := bne_eq_false_iff_eq.mpr c10
              clear c10
              by_cases c11 : (x8_1.length : Int) > 0
              · rw [if_pos c11] at H
                have c11b0 : decide (0 < (x8_1.length : Int)) = true := decide_eq_true c11
                have c11b1 : decide (0 < x8_1.length) = true := decide_eq_true (by omega)
                clear c11
                by_cases c12 : (wrap64 (x9_1 + 1)) < (t245.length : Int)
                · rw [if_pos c12] at H
                  have c12b0 : decide ((wrap64 (x9_1 + 1)) < (t245.length : Int)) = true := decide_eq_true c12
                  clear c12
                  obtain ⟨ji13, hji13⟩ : ∃ j_ : Int, (wrap64 (x9_1 + 1)) = j_ := ⟨_, rfl⟩
                  replace H : (if 0 ≤ (ji13) then (if (rd t245 (ji13)) = 32 then (rollbookref13_Ready.l0 k1 t245 x8_1 ji13) else (if x8_1.length < 35184372088832 then (rollbookref13_Ready.l0 k1 t245 (x8_1 ++ [rd t245 x9_1]) ji13) else (none))) else (none)) = some (r1, r2) := by first | (rw [hji13] at H; exact H) | (simp only [hji13] at H ⊢; exact H)
                  (try rw [hji13] at c12b0)
                  have hji13w : (IntKind.i64.wrap (x9_1 + 1)) = ji13 := (i64_w _).trans hji13
                  by_cases c14 : 0 ≤ (ji13)
                  · rw [if_pos c14] at H
                    have c14b0 : decide (0 ≤ (ji13)) = true := decide_eq_true c14
                    clear c14
                    by_cases c15 : (rd t245 (ji13)) = 32
                    · rw [if_pos c15] at H
                      have c15b0 : ((rd t245 (ji13)) == 32) = true := beq_iff_eq.mpr c15
                      have c15b1 : ((rd t245 (ji13)) != 32) = false := bne_eq_false_iff_eq.mpr c15
                      clear c15
                      have H' := Aside0.mk H
                      clear H
                      obtain ⟨Ao16, co16, eo16⟩ := Kd.R_slice HO_6.out
                      subst eo16
                      have p252 : 0 ≤ (x9_1 : Int) := of_decide_eq_true (by first | (with_reducible assumption) | assumption)
                      have q252 : x9_1 < (t245.length : Int) := of_decide_eq_true (by first | (with_reducible assumption) | assumption)
                      obtain ⟨ad252, e252, hx252_0⟩ := Kd.at_int (Kd.R_reads' HO_6.out).2.2 x9_1 p252 q252
                      cases e252
                      replace p252 := eq_true p252
                      replace q252 := eq_true q252
                      obtain ⟨Ao17, co17, eo17⟩ := Kd.R_slice HO_8.out
                      subst eo17
                      have p253 : 0 ≤ ((ji13) : Int) := of_decide_eq_true (by first | (with_reducible assumption) | assumption)
                      have q253 : (ji13) < (t245.length : Int) := of_decide_eq_true (by first | (with_reducible assumption) | assumption)
                      obtain ⟨ad253, e253, hx253_0⟩ := Kd.at_int (Kd.R_reads' HO_6.out).2.2 (ji13) p253 q253
                      obtain rfl : ad252 = ad253 := (by injection e253)
                      replace p253 := eq_true p253
                      replace q253 := eq_true q253
                      go_wp2
                      go_roundg k1
                      case measure => have := HK1.out; omega
                      case rel => exact ⟨(x8_1), (ji13), (by first | rfl | (simp; done) | (simp only [← hji13] <;> (first | rfl | simp)) | (simp [*]; done)), H', ⟨by have := HK1.out; omega⟩, ⟨by (with_reducible repeat (first | apply Kd.R_alloc | apply Kd.R_drewN | apply Kd.R_drew)); exact HO_6.out⟩, ⟨by (with_reducible repeat (first | apply Kd.R_alloc | apply Kd.R_drewN | apply Kd.R_drew)); exact HO_8.out⟩, ⟨by repeat (first | (with_reducible first | exact HB.out | apply below_alloc | apply pw_below_drewN | apply below_drew1) | exact HB.out)⟩⟩
                    · rw [if_neg c15] at H
                      have c15b0 : ((rd t245 (ji13)) == 32) = false := beq_eq_false_iff_ne.mpr c15
                      have c15b1 : ((rd t245 (ji13)) != 32) = true := bne_iff_ne.mpr c15
                      by_cases c18 : x8_1.length < 35184372088832
                      · rw [if_pos c18] at H
                        have LMc18 := Aside0.mk c18
                        clear c18
                        obtain ⟨y255, hy255⟩ : ∃ y_ : List Int, y_ = (x8_1 ++ [rd t245 x9_1]) := ⟨_, rfl⟩
                        replace H : (rollbookref13_Ready.l0 k1 t245 y255 ji13) = some (r1, r2) := by first | (rw [hy255]; with_reducible exact H) | (have H2_ := (Option.bind_some _ _).symm.trans H; rw [hy255]; with_reducible exact H2_) | (have H2_ := (Option.bind_some _ _).symm.trans H; with_reducible exact H2_) | with_reducible exact H | (rw [hy255]; exact H) | exact H
                        have Ny255 := Aside0.mk hy255
                        clear hy255
                        have H' := Aside0.mk H
                        clear H
                        obtain ⟨Ao19, co19, eo19⟩ := Kd.R_slice HO_6.out
                        subst eo19
                        have p252 : 0 ≤ (x9_1 : Int) := of_decide_eq_true (by first | (with_reducible assumption) | assumption)
                        have q252 : x9_1 < (t245.length : Int) := of_decide_eq_true (by first | (with_reducible assumption) | assumption)
                        obtain ⟨ad252, e252, hx252_0⟩ := Kd.at_int (Kd.R_reads' HO_6.out).2.2 x9_1 p252 q252
                        cases e252
                        replace p252 := eq_true p252
                        replace q252 := eq_true q252
                        obtain ⟨Ao20, co20, eo20⟩ := Kd.R_slice HO_8.out
                        subst eo20
                        have p253 : 0 ≤ ((ji13) : Int) := of_decide_eq_true (by first | (with_reducible assumption) | assumption)
                        have q253 : (ji13) < (t245.length : Int) := of_decide_eq_true (by first | (with_reducible assumption) | assumption)
                        obtain ⟨ad253, e253, hx253_0⟩ := Kd.at_int (Kd.R_reads' HO_6.out).2.2 (ji13) p253 q253
                        obtain rfl : ad252 = ad253 := (by injection e253)
                        replace p253 := eq_true p253
                        replace q253 := eq_true q253
                        have p254 : 0 ≤ (x9_1 : Int) := of_decide_eq_true (by first | (with_reducible assumption) | assumption)
                        have q254 : x9_1 < (t245.length : Int) := of_decide_eq_true (by first | (with_reducible assumption) | assumption)
                        obtain ⟨ad254, e254, hx254_0⟩ := Kd.at_int (Kd.R_reads' HO_6.out).2.2 x9_1 p254 q254
                        obtain rfl : ad252 = ad254 := (by injection e254)
                        replace p254 := eq_true p254
                        replace q254 := eq_true q254
                        go_wp2_with (first | ((with_reducible refine gate_builtin (b := .append) (xs := #[.tmp 51, .tmp 56]) rfl ?_); (try (refine gate_guard (by rfl) ?_; dsimp only)); at_builtin; refine Kd.R_append (Kd.int .i32) (w0 := w) w.heap.size rfl (.tmp 51) (.tmp 56) 41 21 (.int .i32 0) 4 rfl Tryd.underlying41 info21 rfl (by decide) (by omega) (.slice Ao20 x8_1.length co20) x8_1 (rd t245 x9_1) [.int .i32 (rd t245 x9_1)] (fun k_ => some k_ ≠ (.slice (some ad252) t245.length co19 : Value).ownBlock) (fun _ => False) rfl rfl ?aP (fun _ hk => hk.elim) ?aF ?aO ?aB ?aS ?aL ?_; (case aP => exact rfl); (case aB => exact (by repeat (first | (with_reducible first | exact HB.out | apply below_alloc | apply pw_below_drewN | apply below_drew1) | exact HB.out))); (case aF => exact (fun k_ hk => Kd.fresh' (Kd.R_lt (by (with_reducible repeat (first | apply Kd.R_alloc | apply Kd.R_drewN | apply Kd.R_drew)); exact HO_6.out)) k_ hk)); (case aO => exact (by (with_reducible repeat (first | apply Kd.R_alloc | apply Kd.R_drewN | apply Kd.R_drew)); exact HO_8.out)); (case aS => exact (below_size (by repeat (first | (with_reducible first | exact HB.out | apply below_alloc | apply pw_below_drewN | apply below_drew1) | exact HB.out)))); (case aL => have := LMc18.out; omega); intro v256 w21 ho hb hg hat; rw [← Ny255.out] at ho; have n0_ := Aside0.mk (Kd.R_after (ok := (fun _ => True)) (by (with_reducible repeat (first | apply Kd.R_alloc | apply Kd.R_drewN | apply Kd.R_drew)); exact Kd.R_mono HO_6.out (fun _ hk => ⟨trivial, hk⟩)) hg hat); have n1_ := Aside0.mk (hb); have n2_ := Aside0.mk (ho); clear HO_6; clear HB; clear HO_8; have HO_6 := n0_; have HB := n1_; have HO257 := n2_; clear n0_ n1_ n2_; clear ho hb hg hat))
                        go_roundg k1
                        case measure => have := HK1.out; omega
                        case rel => exact ⟨(y255), (ji13), (by first | rfl | (simp; done) | (simp only [← hji13] <;> (first | rfl | simp)) | (simp [*]; done)), H', ⟨by have := HK1.out; omega⟩, ⟨by (with_reducible repeat (first | apply Kd.R_alloc | apply Kd.R_drewN | apply Kd.R_drew)); exact Kd.R_mono HO_6.out (fun _ hk => hk.2)⟩, ⟨by (with_reducible repeat (first | apply Kd.R_alloc | apply Kd.R_drewN | apply Kd.R_drew)); exact HO257.out⟩, ⟨by repeat (first | (with_reducible first | exact HB.out | apply below_alloc | apply pw_below_drewN | apply below_drew1) | exact HB.out)⟩⟩
                      · rw [if_neg c18] at H
                        exact absurd H (by simp)
                  · rw [if_neg c14] at H
                    exact absurd H (by simp)
                · rw [if_neg c12] at H
                  have c12b0 : decide ((wrap64 (x9_1 + 1)) < (t245.length : Int)) = false := decide_eq_false c12
                  clear c12
                  have H' := Aside0.mk H
                  clear H
                  obtain ⟨Ao22, co22, eo22⟩ := Kd.R_slice HO_6.out
                  subst eo22
                  have p252 : 0 ≤ (x9_1 : Int) := of_decide_eq_true (by first | (with_reducible assumption) | assumption)
                  have q252 : x9_1 < (t245.length : Int) := of_decide_eq_true (by first | (with_reducible assumption) | assumption)
                  obtain ⟨ad252, e252, hx252_0⟩ := Kd.at_int (Kd.R_reads' HO_6.out).2.2 x9_1 p252 q252
                  cases e252
                  replace p252 := eq_true p252
                  replace q252 := eq_true q252
                  obtain ⟨Ao23, co23, eo23⟩ := Kd.R_slice HO_8.out
                  subst eo23
                  go_wp2
                  go_roundg k1
                  case measure => have := HK1.out; omega
                  case rel => exact ⟨(x8_1), (wrap64 (x9_1 + 1)), (by first | rfl | (simp; done) | (simp [*]; done)), H', ⟨by have := HK1.out; omega⟩, ⟨by (with_reducible repeat (first | apply Kd.R_alloc | apply Kd.R_drewN | apply Kd.R_drew)); exact HO_6.out⟩, ⟨by (with_reducible repeat (first | apply Kd.R_alloc | apply Kd.R_drewN | apply Kd.R_drew)); exact HO_8.out⟩, ⟨by repeat (first | (with_reducible first | exact HB.out | apply below_alloc | apply pw_below_drewN | apply below_drew1) | exact HB.out)⟩⟩
              · rw [if_neg c11] at H
                have c11b0 : decide (0 < (x8_1.length : Int)) = false := decide_eq_false c11
                have c11b1 : decide (0 < x8_1.length) = false := decide_eq_false (by omega)
                clear c11
                have H' := Aside0.mk H
                clear H
                obtain ⟨Ao24, co24, eo24⟩ := Kd.R_slice HO_6.out
                subst eo24
                have p252 : 0 ≤ (x9_1 : Int) := of_decide_eq_true (by first | (with_reducible assumption) | assumption)
                have q252 : x9_1 < (t245.length : Int) := of_decide_eq_true (by first | (with_reducible assumption) | assumption)
                obtain ⟨ad252, e252, hx252_0⟩ := Kd.at_int (Kd.R_reads' HO_6.out).2.2 x9_1 p252 q252
                cases e252
                replace p252 := eq_true p252
                replace q252 := eq_true q252
                obtain ⟨Ao25, co25, eo25⟩ := Kd.R_slice HO_8.out
                subst eo25
                go_wp2
                go_roundg k1
                case measure => have := HK1.out; omega
                case rel => exact ⟨(x8_1), (wrap64 (x9_1 + 1)), (by first | rfl | (simp; done) | (simp [*]; done)), H', ⟨by have := HK1.out; omega⟩, ⟨by (with_reducible repeat (first | apply Kd.R_alloc | apply Kd.R_drewN | apply Kd.R_drew)); exact HO_6.out⟩, ⟨by (with_reducible repeat (first | apply Kd.R_alloc | apply Kd.R_drewN | apply Kd.R_drew)); exact HO_8.out⟩, ⟨by repeat (first | (with_reducible first | exact HB.out | apply below_alloc | apply pw_below_drewN | apply below_drew1) | exact HB.out)⟩⟩
            · rw [if_neg c10] at H
              have c10b0 : ((rd t245 x9_1) == 32) = false := beq_eq_false_iff_ne.mpr c10
              have c10b1 : ((rd t245 x9_1) != 32) = true := bne_iff_ne.mpr c10
              by_cases c26 : x8_1.length < 35184372088832
              · rw [if_pos c26] at H
                have LMc26 := Aside0.mk c26
                clear c26
                obtain ⟨y259, hy259⟩ : ∃ y_ : List Int, y_ = (x8_1 ++ [rd t245 x9_1]) := ⟨_, rfl⟩
                replace H : (rollbookref13_Ready.l0 k1 t245 y259 (wrap64 (x9_1 + 1))) = some (r1, r2) := by first | (rw [hy259]; with_reducible exact H) | (have H2_ := (Option.bind_some _ _).symm.trans H; rw [hy259]; with_reducible exact H2_) | (have H2_ := (Option.bind_some _ _).symm.trans H; with_reducible exact H2_) | with_reducible exact H | (rw [hy259]; exact H) | exact H
                have Ny259 := Aside0.mk hy259
                clear hy259
                have H' := Aside0.mk H
                clear H
                obtain ⟨Ao27, co27, eo27⟩ := Kd.R_slice HO_6.out
                subst eo27
                have p252 : 0 ≤ (x9_1 : Int) := of_decide_eq_true (by first | (with_reducible assumption) | assumption)
                have q252 : x9_1 < (t245.length : Int) := of_decide_eq_true (by first | (with_reducible assumption) | assumption)
                obtain ⟨ad252, e252, hx252_0⟩ := Kd.at_int (Kd.R_reads' HO_6.out).2.2 x9_1 p252 q252
                cases e252
                replace p252 := eq_true p252
                replace q252 := eq_true q252
                have p258 : 0 ≤ (x9_1 : Int) := of_decide_eq_true (by first | (with_reducible assumption) | assumption)
                have q258 : x9_1 < (t245.length : Int) := of_decide_eq_true (by first | (with_reducible assumption) | assumption)
                obtain ⟨ad258, e258, hx258_0⟩ := Kd.at_int (Kd.R_reads' HO_6.out).2.2 x9_1 p258 q258
                obtain rfl : ad252 = ad258 := (by injection e258)
                replace p258 := eq_true p258
                replace q258 := eq_true q258
                go_wp2_with (first | ((with_reducible refine gate_builtin (b := .append) (xs := #[.tmp 51, .tmp 56]) rfl ?_); (try (refine gate_guard (by rfl) ?_; dsimp only)); at_builtin; refine Kd.R_append (Kd.int .i32) (w0 := w) w.heap.size rfl (.tmp 51) (.tmp 56) 41 21 (.int .i32 0) 4 rfl Tryd.underlying41 info21 rfl (by decide) (by omega) u8 x8_1 (rd t245 x9_1) [.int .i32 (rd t245 x9_1)] (fun k_ => some k_ ≠ (.slice (some ad252) t245.length co27 : Value).ownBlock) (fun _ => False) rfl rfl ?aP (fun _ hk => hk.elim) ?aF ?aO ?aB ?aS ?aL ?_; (case aP => exact rfl); (case aB => exact (by repeat (first | (with_reducible first | exact HB.out | apply below_alloc | apply pw_below_drewN | apply below_drew1) | exact HB.out))); (case aF => exact (fun k_ hk => Kd.fresh' (Kd.R_lt (by (with_reducible repeat (first | apply Kd.R_alloc | apply Kd.R_drewN | apply Kd.R_drew)); exact HO_6.out)) k_ hk)); (case aO => exact (by (with_reducible repeat (first | apply Kd.R_alloc | apply Kd.R_drewN | apply Kd.R_drew)); exact HO_8.out)); (case aS => exact (below_size (by repeat (first | (with_reducible first | exact HB.out | apply below_alloc | apply pw_below_drewN | apply below_drew1) | exact HB.out)))); (case aL => have := LMc26.out; omega); intro v260 w28 ho hb hg hat; rw [← Ny259.out] at ho; have n0_ := Aside0.mk (Kd.R_after (ok := (fun _ => True)) (by (with_reducible repeat (first | apply Kd.R_alloc | apply Kd.R_drewN | apply Kd.R_drew)); exact Kd.R_mono HO_6.out (fun _ hk => ⟨trivial, hk⟩)) hg hat); have n1_ := Aside0.mk (hb); have n2_ := Aside0.mk (ho); clear HO_6; clear HB; clear HO_8; have HO_6 := n0_; have HB := n1_; have HO261 := n2_; clear n0_ n1_ n2_; clear ho hb hg hat))
                go_roundg k1
                case measure => have := HK1.out; omega
                case rel => exact ⟨(y259), (wrap64 (x9_1 + 1)), (by first | rfl | (simp; done) | (simp [*]; done)), H', ⟨by have := HK1.out; omega⟩, ⟨by (with_reducible repeat (first | apply Kd.R_alloc | apply Kd.R_drewN | apply Kd.R_drew)); exact Kd.R_mono HO_6.out (fun _ hk => hk.2)⟩, ⟨by (with_reducible repeat (first | apply Kd.R_alloc | apply Kd.R_drewN | apply Kd.R_drew)); exact HO261.out⟩, ⟨by repeat (first | (with_reducible first | exact HB.out | apply below_alloc | apply pw_below_drewN | apply below_drew1) | exact HB.out)⟩⟩
              · rw [if_neg c26] at H
                exact absurd H (by simp)
          · rw [if_neg c9] at H
            exact absurd H (by simp)
        · rw [if_neg c8] at H
          have c8b0 : decide (x9_1 < (t245.length : Int)) = false := decide_eq_false c8
          clear c8
          replace H := Option.bind_eq_some_iff.mp H
          obtain ⟨t262, A290, H⟩ := H
          replace H : (some (t262, 0)) = some (r1, r2) := H
          have A29 := Aside0.mk A290
          clear A290
          simp only [Option.some.injEq, Prod.mk.injEq] at H
          obtain ⟨rfl, rfl⟩ := H
          obtain ⟨Ao30, co30, eo30⟩ := Kd.R_slice HO_6.out
          subst eo30
          obtain ⟨Ao31, co31, eo31⟩ := Kd.R_slice HO_8.out
          subst eo31
          go_wp2_with (first | ((with_reducible refine gate_callee (f := 67) rfl ?_); refine goesL_ (some 59) rfl rfl Tryd.func67 (by kernel_rfl) rfl #[.slice Ao31 x8_1.length co31] rfl (by (try simp only [List.map_toArray, List.map_cons, List.map_nil]); first | done | rfl | (simp only [List.length_drop, List.length_take]; rfl)) ?_; (with_reducible refine (rollbookref13_Text.calls k1 _ _ x8_1 t262 _ ?side1 ?side2 A29.out).mono ?_); (case side1 => repeat (first | exact (Kd.R_reads' HO_8.out).2.2 | (with_reducible refine Kd.C_alloc ?_ _) | (with_reducible refine Kd.C_drewN ?_ _) | (with_reducible refine Kd.C_drew ?_))); (case side2 => exact (Kd.R_reads' HO_8.out).2.1); rintro e w32 ⟨rfl, hb⟩; refine ⟨_, rfl, ?_⟩; have n0_ := Aside0.mk (Kd.R_below (by (with_reducible repeat (first | apply Kd.R_alloc | apply Kd.R_drewN | apply Kd.R_drew)); exact HO_6.out) hb); have n1_ := Aside0.mk (Kd.R_below (by (with_reducible repeat (first | apply Kd.R_alloc | apply Kd.R_drewN | apply Kd.R_drew)); exact HO_8.out) hb); have n2_ := Aside0.mk (below_step (by repeat (first | (with_reducible first | exact HB.out | apply below_alloc | apply pw_below_drewN | apply below_drew1) | exact HB.out)) hb); clear HO_6; clear HO_8; clear HB; have HO_6 := n0_; have HO_8 := n1_; have HB := n2_; clear n0_ n1_ n2_; (try clear hb); (try clear hb2); (try clear hk); (try clear hi)))
          go_ret2
          exact ⟨by first | rfl | (simp [errW_none, errW_some] <;> rfl) | (simp [*, errW_none, errW_some] <;> rfl), by repeat (first | (with_reducible first | exact HB.out | apply below_alloc | apply pw_below_drewN | apply below_drew1) | exact HB.out)⟩
  · rw [if_neg c4] at H
    have c4b0 : (t246 == 0) = false := beq_eq_false_iff_ne.mpr c4
    have c4b1 : (t246 != 0) = true := bne_iff_ne.mpr c4
    simp only [Option.some.injEq, Prod.mk.injEq] at H
    obtain ⟨rfl, rfl⟩ := H
    go_enter Tryd.func33, Tryd.ntmps33
    go_wp2_with (first | ((with_reducible refine gate_callee (f := 80) rfl ?_); refine goesL_ (some 13) rfl rfl Tryd.func80 (by kernel_rfl) rfl #[.string a0, .bool a1] rfl (by (try simp only [List.map_toArray, List.map_cons, List.map_nil]); first | done | rfl | (simp only [List.length_drop, List.length_take]; rfl)) ?_; (with_reducible refine (rollbookref13_Mapped.calls k a0 a1 t245 t246 _ A3.out).mono ?_); rintro e w33 ⟨v247, rfl, ho0, hb⟩; refine ⟨_, rfl, ?_⟩; have n0_ := Aside0.mk (Kd.R_lower ho0 (below_size (by repeat (first | (with_reducible first | exact HB.out | apply below_alloc | apply pw_below_drewN | apply below_drew1) | exact HB.out)))); have n1_ := Aside0.mk (below_step (by repeat (first | (with_reducible first | exact HB.out | apply below_alloc | apply pw_below_drewN | apply below_drew1) | exact HB.out)) hb); clear HB; have HO248 := n0_; have HB := n1_; clear n0_ n1_; (try clear hb); (try clear hb2); (try clear hk); (try clear hi); (try clear ho0)))
    go_ret2
    exact ⟨by first | rfl | (simp [errW_none, errW_some] <;> rfl) | (simp [*, errW_none, errW_some] <;> rfl), by repeat (first | (with_reducible first | exact HB.out | apply below_alloc | apply pw_below_drewN | apply below_drew1) | exact HB.out)⟩

end Go.Proofs.YtcoddeemfdnjpaaDoor.Fn
namespace Go.Proofs.YtcoddeemfdnjpaaDoor.Fn
open Go.RowKit Go.Proofs.YtcoddeemfdnjpaaDoorW.PrintWords Go.Proofs.YtcoddeemfdnjpaaDoorW.PrintLast Go.Proofs.YtcoddeemfdnjpaaDoorW.PrintMore
attribute [local go_sem] max2_int min2_int max_two min_two max_three min_three max_four min_four   -- for this text's walks alone
set_option linter.unusedVariables false
set_option linter.unusedSimpArgs false

/-! ### rollbookref13_Map: function 69 -/
def rollbookref13_Map.f (k : Nat) (a0 : ByteArray) (a1 : Bool) : Option (ByteArray × Int) := (rollbookref13_Mapped.f k a0 a1).bind fun bt388 => (if bt388.2 = 0 then ((rollbookref13_Text.f k bt388.1).bind fun t392 => (some (t392, 0))) else (some ((⟨#[]⟩ : ByteArray), bt388.2)))
theorem rollbookref13_Map.mono : ∀ a0 a1 k, LeO (rollbookref13_Map.f k a0 a1) (rollbookref13_Map.f (k + 1) a0 a1) := by
  intro a0 a1 k
  unfold rollbookref13_Map.f
  repeat' first
      | (with_reducible exact rollbookref13_Mapped.mono _ _ _)
      | (with_reducible exact rollbookref13_Text.mono _ _)
      | (with_reducible exact LeO.refl _)
      | (with_reducible exact LeO.none _)
      | (with_reducible refine LeO.ite ?_ ?_)
      | (with_reducible refine LeO.bind ?_ (fun _ => ?_))
      | exact rollbookref13_Mapped.mono _ _ _
      | exact rollbookref13_Text.mono _ _
      | exact LeO.none _
      | refine LeO.ite ?_ ?_
      | refine LeO.bind ?_ (fun _ => ?_)
set_option maxHeartbeats 8000000 in
set_option maxRecDepth 100000 in
theorem rollbookref13_Map.calls (k : Nat) (a0 : ByteArray) (a1 : Bool) (r1 : ByteArray) (r2 : Int) (w : World) (h : rollbookref13_Map.f k a0 a1 = some (r1, r2)) :
    Calls Tryd.prog 69 #[.string a0, .bool a1] w fun e w' => e = .returned (.tuple #[.string r1, .int .i64 r2]) ∧ Below w.heap.size w w' := by
  have HB := Aside0.mk (Below.refl w.heap.size w)
  have H : ((rollbookref13_Mapped.f k a0 a1).bind fun bt388 => (if bt388.2 = 0 then ((rollbookref13_Text.f k bt388.1).bind fun t392 => (some (t392, 0))) else (some ((⟨#[]⟩ : ByteArray), bt388.2)))) = some (r1, r2) := h
  clear h
  replace H := Option.bind_eq_some_iff.mp H
  obtain ⟨⟨t388, t389⟩, A30, H⟩ := H
  replace H : (if t389 = 0 then ((rollbookref13_Text.f k t388).bind fun t392 => (some (t392, 0))) else (some ((⟨#[]⟩ : ByteArray), t389))) = some (r1, r2) := H
  have A3 := Aside0.mk A30
  clear A30
  by_cases c4 : t389 = 0
  · rw [if_pos c4] at H
    have c4b0 : (t389 == 0) = true := beq_iff_eq.mpr c4
    have c4b1 : (t389 != 0) = false := bne_eq_false_iff_eq.mpr c4
    clear c4
    replace H := Option.bind_eq_some_iff.mp H
    obtain ⟨t392, A50, H⟩ := H
    replace H : (some (t392, 0)) = some (r1, r2) := H
    have A5 := Aside0.mk A50
    clear A50
    simp only [Option.some.injEq, Prod.mk.injEq] at H
    obtain ⟨rfl, rfl⟩ := H
    go_enter Tryd.func69, Tryd.ntmps69
    go_wp2_with (first | ((with_reducible refine gate_callee (f := 80) rfl ?_); refine goesL_ (some 11) rfl rfl Tryd.func80 (by kernel_rfl) rfl #[.string a0, .bool a1] rfl (by (try simp only [List.map_toArray, List.map_cons, List.map_nil]); first | done | rfl | (simp only [List.length_drop, List.length_take]; rfl)) ?_; (with_reducible refine (rollbookref13_Mapped.calls k a0 a1 t388 t389 _ A3.out).mono ?_); rintro e w6 ⟨v390, rfl, ho0, hb⟩; refine ⟨_, rfl, ?_⟩; have n0_ := Aside0.mk (Kd.R_lower ho0 (below_size (by repeat (first | (with_reducible first | exact HB.out | apply below_alloc | apply pw_below_drewN | apply below_drew1) | exact HB.out)))); have n1_ := Aside0.mk (below_step (by repeat (first | (with_reducible first | exact HB.out | apply below_alloc | apply pw_below_drewN | apply below_drew1) | exact HB.out)) hb); clear HB; have HO391 := n0_; have HB := n1_; clear n0_ n1_; (try clear hb); (try clear hb2); (try clear hk); (try clear hi); (try clear ho0); obtain ⟨Ao7, co7, eo7⟩ := Kd.R_slice HO391.out; subst eo7) | ((with_reducible refine gate_callee (f := 67) rfl ?_); refine goesL_ (some 18) rfl rfl Tryd.func67 (by kernel_rfl) rfl #[.slice Ao7 t388.length co7] rfl (by (try simp only [List.map_toArray, List.map_cons, List.map_nil]); first | done | rfl | (simp only [List.length_drop, List.length_take]; rfl)) ?_; (with_reducible refine (rollbookref13_Text.calls k _ _ t388 t392 _ ?side1 ?side2 A5.out).mono ?_); (case side1 => repeat (first | exact (Kd.R_reads' HO391.out).2.2 | (with_reducible refine Kd.C_alloc ?_ _) | (with_reducible refine Kd.C_drewN ?_ _) | (with_reducible refine Kd.C_drew ?_))); (case side2 => exact (Kd.R_reads' HO391.out).2.1); rintro e w8 ⟨rfl, hb⟩; refine ⟨_, rfl, ?_⟩; have n0_ := Aside0.mk (Kd.R_below (by (with_reducible repeat (first | apply Kd.R_alloc | apply Kd.R_drewN | apply Kd.R_drew)); exact HO391.out) hb); have n1_ := Aside0.mk (below_step (by repeat (first | (with_reducible first | exact HB.out | apply below_alloc | apply pw_below_drewN | apply below_drew1) | exact HB.out)) hb); clear HO391; clear HB; have HO391 := n0_; have HB := n1_; clear n0_ n1_; (try clear hb); (try clear hb2); (try clear hk); (try clear hi)))
    go_ret2
    exact ⟨by first | rfl | (simp [errW_none, errW_some] <;> rfl) | (simp [*, errW_none, errW_some] <;> rfl), by repeat (first | (with_reducible first | exact HB.out | apply below_alloc | apply pw_below_drewN | apply below_drew1) | exact HB.out)⟩
  · rw [if_neg c4] at H
    have c4b0 : (t389 == 0) = false := beq_eq_false_iff_ne.mpr c4
    have c4b1 : (t389 != 0) = true := bne_iff_ne.mpr c4
    simp only [Option.some.injEq, Prod.mk.injEq] at H
    obtain ⟨rfl, rfl⟩ := H
    go_enter Tryd.func69, Tryd.ntmps69
    go_wp2_with (first | ((with_reducible refine gate_callee (f := 80) rfl ?_); refine goesL_ (some 11) rfl rfl Tryd.func80 (by kernel_rfl) rfl #[.string a0, .bool a1] rfl (by (try simp only [List.map_toArray, List.map_cons, List.map_nil]); first | done | rfl | (simp only [List.length_drop, List.length_take]; rfl)) ?_; (with_reducible refine (rollbookref13_Mapped.calls k a0 a1 t388 t389 _ A3.out).mono ?_); rintro e w9 ⟨v390, rfl, ho0, hb⟩; refine ⟨_, rfl, ?_⟩; have n0_ := Aside0.mk (Kd.R_lower ho0 (below_size (by repeat (first | (with_reducible first | exact HB.out | apply below_alloc | apply pw_below_drewN | apply below_drew1) | exact HB.out)))); have n1_ := Aside0.mk (below_step (by repeat (first | (with_reducible first | exact HB.out | apply below_alloc | apply pw_below_drewN | apply below_drew1) | exact HB.out)) hb); clear HB; have HO391 := n0_; have HB := n1_; clear n0_ n1_; (try clear hb); (try clear hb2); (try clear hk); (try clear hi); (try clear ho0)))
    go_ret2
    exact ⟨by first | rfl | (simp [errW_none, errW_some] <;> rfl) | (simp [*, errW_none, errW_some] <;> rfl), by repeat (first | (with_reducible first | exact HB.out | apply below_alloc | apply pw_below_drewN | apply below_drew1) | exact HB.out)⟩

end Go.Proofs.YtcoddeemfdnjpaaDoor.Fn
namespace Go.Proofs.YtcoddeemfdnjpaaDoor.Fn
open Go.RowKit Go.Proofs.YtcoddeemfdnjpaaDoorW.PrintWords Go.Proofs.YtcoddeemfdnjpaaDoorW.PrintLast Go.Proofs.YtcoddeemfdnjpaaDoorW.PrintMore
attribute [local go_sem] max2_int min2_int max_two min_two max_three min_three max_four min_four   -- for this text's walks alone
set_option linter.unusedVariables false
set_option linter.unusedSimpArgs false

/-! ### rollbookref13_Phone: function 72 -/
def rollbookref13_Phone.l0 : Nat → List Int → List Int → Int → Option (ByteArray × Int)
  | 0, _, _, _ => none
  | k + 1, x4, x6, x7 => if x7 < (x4.length : Int) then (if 0 ≤ x7 then (if (rd x4 x7) = 32 then (rollbookref13_Phone.l0 k x4 x6 (wrap64 (x7 + 1))) else (if (rd x4 x7) = 45 then (rollbookref13_Phone.l0 k x4 x6 (wrap64 (x7 + 1))) else (if x6.length < 35184372088832 then (rollbookref13_Phone.l0 k x4 (x6 ++ [rd x4 x7]) (wrap64 (x7 + 1))) else (none)))) else (none)) else ((rollbookref13_Text.f k x6).bind fun t406 => (some (t406, 0)))
def rollbookref13_Phone.f (k : Nat) (a0 : ByteArray) : Option (ByteArray × Int) := (rollbookref13_Mapped.f k a0 true).bind fun bt393 => (if bt393.2 = 0 then (rollbookref13_Phone.l0 k bt393.1 (([] : List Int)) 0) else (some ((⟨#[]⟩ : ByteArray), bt393.2)))
theorem rollbookref13_Phone.mono_l : ∀ k, (∀ y0 y1 y2, LeO (rollbookref13_Phone.l0 k y0 y1 y2) (rollbookref13_Phone.l0 (k + 1) y0 y1 y2))
  | 0 => fun _ _ _ r h => by simp [rollbookref13_Phone.l0] at h
  | k + 1 => by
    have ih0 := rollbookref13_Phone.mono_l k
    · intro y0 y1 y2
      unfold rollbookref13_Phone.l0
      repeat' first
      | (with_reducible exact ih0 _ _ _)
      | (with_reducible exact rollbookref13_Mapped.mono _ _ _)
      | (with_reducible exact rollbookref13_Text.mono _ _)
      | (with_reducible exact LeO.refl _)
      | (with_reducible exact LeO.none _)
      | (with_reducible refine LeO.ite ?_ ?_)
      | (with_reducible refine LeO.bind ?_ (fun _ => ?_))
      | exact ih0 _ _ _
      | exact rollbookref13_Mapped.mono _ _ _
      | exact rollbookref13_Text.mono _ _
      | exact LeO.none _
      | refine LeO.ite ?_ ?_
      | refine LeO.bind ?_ (fun _ => ?_)
theorem rollbookref13_Phone.mono : ∀ a0 k, LeO (rollbookref13_Phone.f k a0) (rollbookref13_Phone.f (k + 1) a0) := by
  intro a0 k
  have ih0 := rollbookref13_Phone.mono_l k
  unfold rollbookref13_Phone.f
  repeat' first
      | (with_reducible exact ih0 _ _ _)
      | (with_reducible exact rollbookref13_Mapped.mono _ _ _)
      | (with_reducible exact rollbookref13_Text.mono _ _)
      | (with_reducible exact LeO.refl _)
      | (with_reducible exact LeO.none _)
      | (with_reducible refine LeO.ite ?_ ?_)
      | (with_reducible refine LeO.bind ?_ (fun _ => ?_))
      | exact ih0 _ _ _
      | exact rollbookref13_Mapped.mono _ _ _
      | exact rollbookref13_Text.mono _ _
      | exact LeO.none _
      | refine LeO.ite ?_ ?_
      | refine LeO.bind ?_ (fun _ => ?_)
set_option maxHeartbeats 8000000 in
set_option maxRecDepth 100000 in
theorem rollbookref13_Phone.calls (k : Nat) (a0 : ByteArray) (r1 : ByteArray) (r2 : Int) (w : World) (h : rollbookref13_Phone.f k a0 = some (r1, r2)) :
    Calls Tryd.prog 72 #[.string a0] w fun e w' => e = .returned (.tuple #[.string r1, .int .i64 r2]) ∧ Below w.heap.size w w' := by
  have HB := Aside0.mk (Below.refl w.heap.size w)
  have H : ((rollbookref13_Mapped.f k a0 true).bind fun bt393 => (if bt393.2 = 0 then (rollbookref13_Phone.l0 k bt393.1 (([] : List Int)) 0) else (some ((⟨#[]⟩ : ByteArray), bt393.2)))) = some (r1, r2) := h
  clear h
  replace H := Option.bind_eq_some_iff.mp H
  obtain ⟨⟨t393, t394⟩, A20, H⟩ := H
  replace H : (if t394 = 0 then (rollbookref13_Phone.l0 k t393 (([] : List Int)) 0) else (some ((⟨#[]⟩ : ByteArray), t394))) = some (r1, r2) := H
  have A2 := Aside0.mk A20
  clear A20
  by_cases c3 : t394 = 0
  · rw [if_pos c3] at H
    have c3b0 : (t394 == 0) = true := beq_iff_eq.mpr c3
    have c3b1 : (t394 != 0) = false := bne_eq_false_iff_eq.mpr c3
    clear c3
    obtain ⟨y397, hy397⟩ : ∃ y_ : List Int, y_ = (([] : List Int)) := ⟨_, rfl⟩
    replace H : (rollbookref13_Phone.l0 k t393 y397 0) = some (r1, r2) := by first | (rw [hy397]; with_reducible exact H) | (have H2_ := (Option.bind_some _ _).symm.trans H; rw [hy397]; with_reducible exact H2_) | (have H2_ := (Option.bind_some _ _).symm.trans H; with_reducible exact H2_) | with_reducible exact H | (rw [hy397]; exact H) | exact H
    have Ny397 := Aside0.mk hy397
    clear hy397
    have H' := Aside0.mk H
    clear H
    go_enter Tryd.func72, Tryd.ntmps72
    go_wp2_with (first | ((with_reducible refine gate_callee (f := 80) rfl ?_); refine goesL_ (some 10) rfl rfl Tryd.func80 (by kernel_rfl) rfl #[.string a0, .bool true] rfl (by (try simp only [List.map_toArray, List.map_cons, List.map_nil]); first | done | rfl | (simp only [List.length_drop, List.length_take]; rfl)) ?_; (with_reducible refine (rollbookref13_Mapped.calls k a0 true t393 t394 _ A2.out).mono ?_); rintro e w4 ⟨v395, rfl, ho0, hb⟩; refine ⟨_, rfl, ?_⟩; have n0_ := Aside0.mk (Kd.R_lower ho0 (below_size (by repeat (first | (with_reducible first | exact HB.out | apply below_alloc | apply pw_below_drewN | apply below_drew1) | exact HB.out)))); have n1_ := Aside0.mk (below_step (by repeat (first | (with_reducible first | exact HB.out | apply below_alloc | apply pw_below_drewN | apply below_drew1) | exact HB.out)) hb); clear HB; have HO396 := n0_; have HB := n1_; clear n0_ n1_; (try clear hb); (try clear hb2); (try clear hk); (try clear hi); (try clear ho0)) | ((with_reducible refine gate_dst (N := 16) rfl ?_); refine Kd.R_lit (Kd.int .i32) _ 21 ?hg (N := 16) ?hd (xs := ([] : List Int)) (inner := []) (ok := fun _ => True) (okp := fun _ => True) ?hr ?hp (fun _ hk => hk) trivial (Below.refl _ _) (Nat.le_refl _) (by simp) ?_; (case hd => rfl); (case hg => rfl); (case hr => first | (go_simp; done) | (go_simp; rfl)); (case hp => exact (Reps.none _ _)); intro v398 w5 ho6 hb hg_ hnew_; clear hg_ hnew_; (first | rw [← Ny397.out] at ho6 | (simp only [Int.reduceToNat] at ho6; rw [← Ny397.out] at ho6)); have n0_ := Aside0.mk (Kd.R_elder' (by (with_reducible repeat (first | apply Kd.R_alloc | apply Kd.R_drewN | apply Kd.R_drew)); exact HO396.out) (Kd.R_base ho6) hb); have n1_ := Aside0.mk (Kd.R_lower (Kd.R_new' ho6 (Kd.R_lt (by (with_reducible repeat (first | apply Kd.R_alloc | apply Kd.R_drewN | apply Kd.R_drew)); exact HO396.out))) (below_size (by repeat (first | (with_reducible first | exact HB.out | apply below_alloc | apply pw_below_drewN | apply below_drew1) | exact HB.out)))); have n2_ := Aside0.mk (below_step (by repeat (first | (with_reducible first | exact HB.out | apply below_alloc | apply pw_below_drewN | apply below_drew1) | exact HB.out)) hb); clear HO396; clear HB; have HO396 := n0_; have HO399 := n1_; have HB := n2_; clear n0_ n1_ n2_; clear hb ho6))
    go_loopg [6, 7] k (fun kq v6 v7 w' => ∃ (x6_1 : List Int) (x7_1 : Int), v7 = .int .i64 x7_1 ∧ Aside0 (rollbookref13_Phone.l0 kq t393 x6_1 x7_1 = some (r1, r2)) ∧ Aside0 (kq ≤ k) ∧ Aside0 (Kd.R (Kd.int .i32) 21 w' w.heap.size (fun k_ => some k_ ≠ (v6 : Value).ownBlock) v395 t393) ∧ Aside0 (Kd.R (Kd.int .i32) 21 w' w.heap.size (fun k_ => some k_ ≠ (v395 : Value).ownBlock) v6 x6_1) ∧ Aside0 (Below w.heap.size w w'))
    case atStart => exact ⟨(y397), (0), (by first | rfl | (simp; done) | (simp [*]; done)), H', ⟨Nat.le_refl _⟩, ⟨by (with_reducible repeat (first | apply Kd.R_alloc | apply Kd.R_drewN | apply Kd.R_drew)); exact Kd.R_mono HO396.out (fun _ hk => hk.2)⟩, ⟨by (with_reducible repeat (first | apply Kd.R_alloc | apply Kd.R_drewN | apply Kd.R_drew)); exact Kd.R_mono HO399.out (fun _ hk => hk.2)⟩, ⟨by repeat (first | (with_reducible first | exact HB.out | apply below_alloc | apply pw_below_drewN | apply below_drew1) | exact HB.out)⟩⟩
    case round =>
      clear H'
      try clear p2
      try clear c3
      try clear c3b0
      try clear c3b1
      obtain ⟨x6_1, x7_1, rfl, HA, HK1, HO_4, HO_6, HB⟩ := hrel
      cases gk with
      | zero => exact absurd HA.out (by simp [rollbookref13_Phone.l0])
      | succ k1 =>
        have H := HA.out
        clear HA
        simp only [rollbookref13_Phone.l0] at H
        by_cases c7 : x7_1 < (t393.length : Int)
        · rw [if_pos c7] at H
          have c7b0 : decide (x7_1 < (t393.length : Int)) = true := decide_eq_true c7
          clear c7
          by_cases c8 : 0 ≤ x7_1
          · rw [if_pos c8] at H
            have c8b0 : decide (0 ≤ x7_1) = true := decide_eq_true c8
            clear c8
            by_cases c9 : (rd t393 x7_1) = 32
            · rw [if_pos c9] at H
              have c9b0 : ((rd t393 x7_1) == 32) = true := beq_iff_eq.mpr c9
              have c9b1 : ((rd t393 x7_1) != 32) = false := bne_eq_false_iff_eq.mpr c9
              clear c9
              have H' := Aside0.mk H
              clear H
              obtain ⟨Ao10, co10, eo10⟩ := Kd.R_slice HO_4.out
              subst eo10
              have p400 : 0 ≤ (x7_1 : Int) := of_decide_eq_true (by first | (with_reducible assumption) | assumption)
              have q400 : x7_1 < (t393.length : Int) := of_decide_eq_true (by first | (with_reducible assumption) | assumption)
              obtain ⟨ad400, e400, hx400_0⟩ := Kd.at_int (Kd.R_reads' HO_4.out).2.2 x7_1 p400 q400
              cases e400
              replace p400 := eq_true p400
              replace q400 := eq_true q400
              go_wp2
              go_roundg k1
              case measure => have := HK1.out; omega
              case rel => exact ⟨(x6_1), (wrap64 (x7_1 + 1)), (by first | rfl | (simp; done) | (simp [*]; done)), H', ⟨by have := HK1.out; omega⟩, ⟨by (with_reducible repeat (first | apply Kd.R_alloc | apply Kd.R_drewN | apply Kd.R_drew)); exact HO_4.out⟩, ⟨by (with_reducible repeat (first | apply Kd.R_alloc | apply Kd.R_drewN | apply Kd.R_drew)); exact HO_6.out⟩, ⟨by repeat (first | (with_reducible first | exact HB.out | apply below_alloc | apply pw_below_drewN | apply below_drew1) | exact HB.out)⟩⟩
            · rw [if_neg c9] at H
              have c9b0 : ((rd t393 x7_1) == 32) = false := beq_eq_false_iff_ne.mpr c9
              have c9b1 : ((rd t393 x7_1) != 32) = true := bne_iff_ne.mpr c9
              by_cases c11 : (rd t393 x7_1) = 45
              · rw [if_pos c11] at H
                have c11b0 : ((rd t393 x7_1) == 45) = true := beq_iff_eq.mpr c11
                have c11b1 : ((rd t393 x7_1) != 45) = false := bne_eq_false_iff_eq.mpr c11
                clear c11
                have H' := Aside0.mk H
                clear H
                obtain ⟨Ao12, co12, eo12⟩ := Kd.R_slice HO_4.out
                subst eo12
                have p400 : 0 ≤ (x7_1 : Int) := of_decide_eq_true (by first | (with_reducible assumption) | assumption)
                have q400 : x7_1 < (t393.length : Int) := of_decide_eq_true (by first | (with_reducible assumption) | assumption)
                obtain ⟨ad400, e400, hx400_0⟩ := Kd.at_int (Kd.R_reads' HO_4.out).2.2 x7_1 p400 q400
                cases e400
                replace p400 := eq_true p400
                replace q400 := eq_true q400
                have p401 : 0 ≤ (x7_1 : Int) := of_decide_eq_true (by first | (with_reducible assumption) | assumption)
                have q401 : x7_1 < (t393.length : Int) := of_decide_eq_true (by first | (with_reducible assumption) | assumption)
                obtain ⟨ad401, e401, hx401_0⟩ := Kd.at_int (Kd.R_reads' HO_4.out).2.2 x7_1 p401 q401
                obtain rfl : ad400 = ad401 := (by injection e401)
                replace p401 := eq_true p401
                replace q401 := eq_true q401
                go_wp2
                go_roundg k1
                case measure => have := HK1.out; omega
                case rel => exact ⟨(x6_1), (wrap64 (x7_1 + 1)), (by first | rfl | (simp; done) | (simp [*]; done)), H', ⟨by have := HK1.out; omega⟩, ⟨by (with_reducible repeat (first | apply Kd.R_alloc | apply Kd.R_drewN | apply Kd.R_drew)); exact HO_4.out⟩, ⟨by (with_reducible repeat (first | apply Kd.R_alloc | apply Kd.R_drewN | apply Kd.R_drew)); exact HO_6.out⟩, ⟨by repeat (first | (with_reducible first | exact HB.out | apply below_alloc | apply pw_below_drewN | apply below_drew1) | exact HB.out)⟩⟩
              · rw [if_neg c11] at H
                have c11b0 : ((rd t393 x7_1) == 45) = false := beq_eq_false_iff_ne.mpr c11
                have c11b1 : ((rd t393 x7_1) != 45) = true := bne_iff_ne.mpr c11
                by_cases c13 : x6_1.length < 35184372088832
                · rw [if_pos c13] at H
                  have LMc13 := Aside0.mk c13
                  clear c13
                  obtain ⟨y403, hy403⟩ : ∃ y_ : List Int, y_ = (x6_1 ++ [rd t393 x7_1]) := ⟨_, rfl⟩
                  replace H : (rollbookref13_Phone.l0 k1 t393 y403 (wrap64 (x7_1 + 1))) = some (r1, r2) := by first | (rw [hy403]; with_reducible exact H) | (have H2_ := (Option.bind_some _ _).symm.trans H; rw [hy403]; with_reducible exact H2_) | (have H2_ := (Option.bind_some _ _).symm.trans H; with_reducible exact H2_) | with_reducible exact H | (rw [hy403]; exact H) | exact H
                  have Ny403 := Aside0.mk hy403
                  clear hy403
                  have H' := Aside0.mk H
                  clear H
                  obtain ⟨Ao14, co14, eo14⟩ := Kd.R_slice HO_4.out
                  subst eo14
                  have p400 : 0 ≤ (x7_1 : Int) := of_decide_eq_true (by first | (with_reducible assumption) | assumption)
                  have q400 : x7_1 < (t393.length : Int) := of_decide_eq_true (by first | (with_reducible assumption) | assumption)
                  obtain ⟨ad400, e400, hx400_0⟩ := Kd.at_int (Kd.R_reads' HO_4.out).2.2 x7_1 p400 q400
                  cases e400
                  replace p400 := eq_true p400
                  replace q400 := eq_true q400
                  have p401 : 0 ≤ (x7_1 : Int) := of_decide_eq_true (by first | (with_reducible assumption) | assumption)
                  have q401 : x7_1 < (t393.length : Int) := of_decide_eq_true (by first | (with_reducible assumption) | assumption)
                  obtain ⟨ad401, e401, hx401_0⟩ := Kd.at_int (Kd.R_reads' HO_4.out).2.2 x7_1 p401 q401
                  obtain rfl : ad400 = ad401 := (by injection e401)
                  replace p401 := eq_true p401
                  replace q401 := eq_true q401
                  have p402 : 0 ≤ (x7_1 : Int) := of_decide_eq_true (by first | (with_reducible assumption) | assumption)
                  have q402 : x7_1 < (t393.length : Int) := of_decide_eq_true (by first | (with_reducible assumption) | assumption)
                  obtain ⟨ad402, e402, hx402_0⟩ := Kd.at_int (Kd.R_reads' HO_4.out).2.2 x7_1 p402 q402
                  obtain rfl : ad400 = ad402 := (by injection e402)
                  replace p402 := eq_true p402
                  replace q402 := eq_true q402
                  go_wp2_with (first | ((with_reducible refine gate_builtin (b := .append) (xs := #[.tmp 35, .tmp 40]) rfl ?_); at_builtin; refine Kd.R_append (Kd.int .i32) (w0 := w) w.heap.size rfl (.tmp 35) (.tmp 40) 41 21 (.int .i32 0) 4 rfl Tryd.underlying41 info21 rfl (by decide) (by omega) u6 x6_1 (rd t393 x7_1) [.int .i32 (rd t393 x7_1)] (fun k_ => some k_ ≠ (.slice (some ad400) t393.length co14 : Value).ownBlock) (fun _ => False) rfl rfl ?aP (fun _ hk => hk.elim) ?aF ?aO ?aB ?aS ?aL ?_; (case aP => exact rfl); (case aB => exact (by repeat (first | (with_reducible first | exact HB.out | apply below_alloc | apply pw_below_drewN | apply below_drew1) | exact HB.out))); (case aF => exact (fun k_ hk => Kd.fresh' (Kd.R_lt (by (with_reducible repeat (first | apply Kd.R_alloc | apply Kd.R_drewN | apply Kd.R_drew)); exact HO_4.out)) k_ hk)); (case aO => exact (by (with_reducible repeat (first | apply Kd.R_alloc | apply Kd.R_drewN | apply Kd.R_drew)); exact HO_6.out)); (case aS => exact (below_size (by repeat (first | (with_reducible first | exact HB.out | apply below_alloc | apply pw_below_drewN | apply below_drew1) | exact HB.out)))); (case aL => have := LMc13.out; omega); intro v404 w15 ho hb hg hat; rw [← Ny403.out] at ho; have n0_ := Aside0.mk (Kd.R_after (ok := (fun _ => True)) (by (with_reducible repeat (first | apply Kd.R_alloc | apply Kd.R_drewN | apply Kd.R_drew)); exact Kd.R_mono HO_4.out (fun _ hk => ⟨trivial, hk⟩)) hg hat); have n1_ := Aside0.mk (hb); have n2_ := Aside0.mk (ho); clear HO_4; clear HB; clear HO_6; have HO_4 := n0_; have HB := n1_; have HO405 := n2_; clear n0_ n1_ n2_; clear ho hb hg hat))
                  go_roundg k1
                  case measure => have := HK1.out; omega
                  case rel => exact ⟨(y403), (wrap64 (x7_1 + 1)), (by first | rfl | (simp; done) | (simp [*]; done)), H', ⟨by have := HK1.out; omega⟩, ⟨by (with_reducible repeat (first | apply Kd.R_alloc | apply Kd.R_drewN | apply Kd.R_drew)); exact Kd.R_mono HO_4.out (fun _ hk => hk.2)⟩, ⟨by (with_reducible repeat (first | apply Kd.R_alloc | apply Kd.R_drewN | apply Kd.R_drew)); exact HO405.out⟩, ⟨by repeat (first | (with_reducible first | exact HB.out | apply below_alloc | apply pw_below_drewN | apply below_drew1) | exact HB.out)⟩⟩
                · rw [if_neg c13] at H
                  exact absurd H (by simp)
          · rw [if_neg c8] at H
            exact absurd H (by simp)
        · rw [if_neg c7] at H
          have c7b0 : decide (x7_1 < (t393.length : Int)) = false := decide_eq_false c7
          clear c7
          replace H := Option.bind_eq_some_iff.mp H
          obtain ⟨t406, A160, H⟩ := H
          replace H : (some (t406, 0)) = some (r1, r2) := H
          have A16 := Aside0.mk A160
          clear A160
          simp only [Option.some.injEq, Prod.mk.injEq] at H
          obtain ⟨rfl, rfl⟩ := H
          obtain ⟨Ao17, co17, eo17⟩ := Kd.R_slice HO_4.out
          subst eo17
          obtain ⟨Ao18, co18, eo18⟩ := Kd.R_slice HO_6.out
          subst eo18
          go_wp2_with (first | ((with_reducible refine gate_callee (f := 67) rfl ?_); refine goesL_ (some 43) rfl rfl Tryd.func67 (by kernel_rfl) rfl #[.slice Ao18 x6_1.length co18] rfl (by (try simp only [List.map_toArray, List.map_cons, List.map_nil]); first | done | rfl | (simp only [List.length_drop, List.length_take]; rfl)) ?_; (with_reducible refine (rollbookref13_Text.calls k1 _ _ x6_1 t406 _ ?side1 ?side2 A16.out).mono ?_); (case side1 => repeat (first | exact (Kd.R_reads' HO_6.out).2.2 | (with_reducible refine Kd.C_alloc ?_ _) | (with_reducible refine Kd.C_drewN ?_ _) | (with_reducible refine Kd.C_drew ?_))); (case side2 => exact (Kd.R_reads' HO_6.out).2.1); rintro e w19 ⟨rfl, hb⟩; refine ⟨_, rfl, ?_⟩; have n0_ := Aside0.mk (Kd.R_below (by (with_reducible repeat (first | apply Kd.R_alloc | apply Kd.R_drewN | apply Kd.R_drew)); exact HO_4.out) hb); have n1_ := Aside0.mk (Kd.R_below (by (with_reducible repeat (first | apply Kd.R_alloc | apply Kd.R_drewN | apply Kd.R_drew)); exact HO_6.out) hb); have n2_ := Aside0.mk (below_step (by repeat (first | (with_reducible first | exact HB.out | apply below_alloc | apply pw_below_drewN | apply below_drew1) | exact HB.out)) hb); clear HO_4; clear HO_6; clear HB; have HO_4 := n0_; have HO_6 := n1_; have HB := n2_; clear n0_ n1_ n2_; (try clear hb); (try clear hb2); (try clear hk); (try clear hi)))
          go_ret2
          exact ⟨by first | rfl | (simp [errW_none, errW_some] <;> rfl) | (simp [*, errW_none, errW_some] <;> rfl), by repeat (first | (with_reducible first | exact HB.out | apply below_alloc | apply pw_below_drewN | apply below_drew1) | exact HB.out)⟩
  · rw [if_neg c3] at H
    have c3b0 : (t394 == 0) = false := beq_eq_false_iff_ne.mpr c3
    have c3b1 : (t394 != 0) = true := bne_iff_ne.mpr c3
    simp only [Option.some.injEq, Prod.mk.injEq] at H
    obtain ⟨rfl, rfl⟩ := H
    go_enter Tryd.func72, Tryd.ntmps72
    go_wp2_with (first | ((with_reducible refine gate_callee (f := 80) rfl ?_); refine goesL_ (some 10) rfl rfl Tryd.func80 (by kernel_rfl) rfl #[.string a0, .bool true] rfl (by (try simp only [List.map_toArray, List.map_cons, List.map_nil]); first | done | rfl | (simp only [List.length_drop, List.length_take]; rfl)) ?_; (with_reducible refine (rollbookref13_Mapped.calls k a0 true t393 t394 _ A2.out).mono ?_); rintro e w20 ⟨v395, rfl, ho0, hb⟩; refine ⟨_, rfl, ?_⟩; have n0_ := Aside0.mk (Kd.R_lower ho0 (below_size (by repeat (first | (with_reducible first | exact HB.out | apply below_alloc | apply pw_below_drewN | apply below_drew1) | exact HB.out)))); have n1_ := Aside0.mk (below_step (by repeat (first | (with_reducible first | exact HB.out | apply below_alloc | apply pw_below_drewN | apply below_drew1) | exact HB.out)) hb); clear HB; have HO396 := n0_; have HB := n1_; clear n0_ n1_; (try clear hb); (try clear hb2); (try clear hk); (try clear hi); (try clear ho0)))
    go_ret2
    exact ⟨by first | rfl | (simp [errW_none, errW_some] <;> rfl) | (simp [*, errW_none, errW_some] <;> rfl), by repeat (first | (with_reducible first | exact HB.out | apply below_alloc | apply pw_below_drewN | apply below_drew1) | exact HB.out)⟩

end Go.Proofs.YtcoddeemfdnjpaaDoor.Fn
