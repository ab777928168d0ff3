/- One function's walk: its lines were printed by the kit's print.py for this claim (one text a function). -/
import Derived.Test.YtcoddeemfdnjpaaDoorFnBase
namespace Go.Proofs.YtcoddeemfdnjpaaDoor.Fn
open Go.RowKit Go.Proofs.YtcoddeemfdnjpaaDoorW.PrintWords Go.Proofs.YtcoddeemfdnjpaaDoorW.PrintLast Go.Proofs.YtcoddeemfdnjpaaDoorW.PrintMore
attribute [local go_sem] max2_int min2_int max_two min_two max_three min_three max_four min_four   -- for this text's walks alone
set_option linter.unusedVariables false
set_option linter.unusedSimpArgs false

/-! ### rollbooklaw04_mixed: function 46 -/
def rollbooklaw04_mixed.l0 : Nat → Int → Int → Int → Bool → Bool → Int → Option (Bool)
  | 0, _, _, _, _, _, _ => none
  | k + 1, x1, x2, x3, x9, x10, x11 => if x11 < 4 then (if 0 ≤ (wrap64 (8 * x11)) then (if ((shr .u32 x2 (wrap64 (8 * x11))) % 256) = 0 then (rollbooklaw04_mixed.l0 k x1 x2 x3 x9 x10 (wrap64 (x11 + 1))) else (if (wrap64 (x1 + x11)) ≥ x3 then (if (wrap64 (x1 + x11)) < (wrap64 (x3 + 4)) then (rollbooklaw04_mixed.l0 k x1 x2 x3 true x10 (wrap64 (x11 + 1))) else (rollbooklaw04_mixed.l0 k x1 x2 x3 x9 true (wrap64 (x11 + 1)))) else (rollbooklaw04_mixed.l0 k x1 x2 x3 x9 true (wrap64 (x11 + 1))))) else (none)) else (if x9 = true then (some x10) else (some false))
def rollbooklaw04_mixed.f (k : Nat) (a0 : ByteArray) (a1 : Int) (a2 : Int) (a3 : Int) : Option (Bool) := if (IntKind.u64.wrap (wrap64 ((a0.size : Int) - 3))) = 0 then (none) else (rollbooklaw04_mixed.l0 k (wrap64 (Int.tmod (IntKind.u64.wrap (a1)) (IntKind.u64.wrap (wrap64 ((a0.size : Int) - 3))))) a2 a3 false false 0)
theorem rollbooklaw04_mixed.mono_l : ∀ k, (∀ y0 y1 y2 y3 y4 y5, LeO (rollbooklaw04_mixed.l0 k y0 y1 y2 y3 y4 y5) (rollbooklaw04_mixed.l0 (k + 1) y0 y1 y2 y3 y4 y5))
  | 0 => fun _ _ _ _ _ _ r h => by simp [rollbooklaw04_mixed.l0] at h
  | k + 1 => by
    have ih0 := rollbooklaw04_mixed.mono_l k
    · intro y0 y1 y2 y3 y4 y5
      unfold rollbooklaw04_mixed.l0
      repeat' first
      | (with_reducible exact ih0 _ _ _ _ _ _)
      | (with_reducible exact LeO.refl _)
      | (with_reducible exact LeO.none _)
      | (with_reducible refine LeO.ite ?_ ?_)
      | (with_reducible refine LeO.bind ?_ (fun _ => ?_))
      | exact ih0 _ _ _ _ _ _
      | exact LeO.none _
      | refine LeO.ite ?_ ?_
      | refine LeO.bind ?_ (fun _ => ?_)
theorem rollbooklaw04_mixed.mono : ∀ a0 a1 a2 a3 k, LeO (rollbooklaw04_mixed.f k a0 a1 a2 a3) (rollbooklaw04_mixed.f (k + 1) a0 a1 a2 a3) := by
  intro a0 a1 a2 a3 k
  have ih0 := rollbooklaw04_mixed.mono_l k
  unfold rollbooklaw04_mixed.f
  repeat' first
      | (with_reducible exact ih0 _ _ _ _ _ _)
      | (with_reducible exact LeO.refl _)
      | (with_reducible exact LeO.none _)
      | (with_reducible refine LeO.ite ?_ ?_)
      | (with_reducible refine LeO.bind ?_ (fun _ => ?_))
      | exact ih0 _ _ _ _ _ _
      | exact LeO.none _
      | refine LeO.ite ?_ ?_
      | refine LeO.bind ?_ (fun _ => ?_)
set_option maxHeartbeats 8000000 in
set_option maxRecDepth 100000 in
theorem rollbooklaw04_mixed.calls (k : Nat) (a0 : ByteArray) (a1 : Int) (a2 : Int) (a3 : Int) (r : Bool) (w : World) (h : rollbooklaw04_mixed.f k a0 a1 a2 a3 = some r) :
    Calls Tryd.prog 46 #[.string a0, .int .i64 a1, .int .u32 a2, .int .i64 a3] w fun e w' => e = .returned (.bool r) ∧ Drawn0 w w' := by
  have H : (if (IntKind.u64.wrap (wrap64 ((a0.size : Int) - 3))) = 0 then (none) else (rollbooklaw04_mixed.l0 k (wrap64 (Int.tmod (IntKind.u64.wrap (a1)) (IntKind.u64.wrap (wrap64 ((a0.size : Int) - 3))))) a2 a3 false false 0)) = some r := h
  clear h
  by_cases c5 : (IntKind.u64.wrap (wrap64 ((a0.size : Int) - 3))) = 0
  · rw [if_pos c5] at H
    exact absurd H (by simp)
  · rw [if_neg c5] at H
    have c5b0 : ((IntKind.u64.wrap (wrap64 ((a0.size : Int) - 3))) == 0) = false := beq_eq_false_iff_ne.mpr c5
    have c5b1 : ((IntKind.u64.wrap (wrap64 ((a0.size : Int) - 3))) != 0) = true := bne_iff_ne.mpr c5
    have H' := Aside0.mk H
    clear H
    go_enter Tryd.func46, Tryd.ntmps46
    go_wp2
    go_loopg [9, 10, 11] k (fun kq v9 v10 v11 w' => ∃ (x9_1 : Bool) (x10_1 : Bool) (x11_1 : Int), v9 = .bool x9_1 ∧ v10 = .bool x10_1 ∧ v11 = .int .i64 x11_1 ∧ Aside0 (rollbooklaw04_mixed.l0 kq (wrap64 (Int.tmod (IntKind.u64.wrap (a1)) (IntKind.u64.wrap (wrap64 ((a0.size : Int) - 3))))) a2 a3 x9_1 x10_1 x11_1 = some r) ∧ Aside0 (kq ≤ k) ∧ Drawn0 w w')
    case atStart => exact ⟨(false), (false), (0), (by first | rfl | (simp; done) | (simp [*]; done)), (by first | rfl | (simp; done) | (simp [*]; done)), (by first | rfl | (simp; done) | (simp [*]; done)), H', ⟨Nat.le_refl _⟩, by repeat (first | exact Drawn0.refl _ | apply Drawn0.step)⟩
    case round =>
      clear H'
      try clear p2
      try clear c4
      try clear c5
      try clear c5b0
      try clear c5b1
      obtain ⟨x9_1, x10_1, x11_1, rfl, rfl, rfl, HA, HK1, ⟨m1, rfl⟩⟩ := hrel
      cases gk with
      | zero => exact absurd HA.out (by simp [rollbooklaw04_mixed.l0])
      | succ k1 =>
        have H := HA.out
        clear HA
        simp only [rollbooklaw04_mixed.l0] at H
        by_cases c6 : x11_1 < 4
        · rw [if_pos c6] at H
          have c6b0 : decide (x11_1 < 4) = true := decide_eq_true c6
          clear c6
          obtain ⟨ji7, hji7⟩ : ∃ j_ : Int, (wrap64 (8 * x11_1)) = j_ := ⟨_, rfl⟩
          replace H : (if 0 ≤ (ji7) then (if ((shr .u32 a2 (ji7)) % 256) = 0 then (rollbooklaw04_mixed.l0 k1 (wrap64 (Int.tmod (IntKind.u64.wrap (a1)) (IntKind.u64.wrap (wrap64 ((a0.size : Int) - 3))))) a2 a3 x9_1 x10_1 (wrap64 (x11_1 + 1))) else (if (wrap64 ((wrap64 (Int.tmod (IntKind.u64.wrap (a1)) (IntKind.u64.wrap (wrap64 ((a0.size : Int) - 3))))) + x11_1)) ≥ a3 then (if (wrap64 ((wrap64 (Int.tmod (IntKind.u64.wrap (a1)) (IntKind.u64.wrap (wrap64 ((a0.size : Int) - 3))))) + x11_1)) < (wrap64 (a3 + 4)) then (rollbooklaw04_mixed.l0 k1 (wrap64 (Int.tmod (IntKind.u64.wrap (a1)) (IntKind.u64.wrap (wrap64 ((a0.size : Int) - 3))))) a2 a3 true x10_1 (wrap64 (x11_1 + 1))) else (rollbooklaw04_mixed.l0 k1 (wrap64 (Int.tmod (IntKind.u64.wrap (a1)) (IntKind.u64.wrap (wrap64 ((a0.size : Int) - 3))))) a2 a3 x9_1 true (wrap64 (x11_1 + 1)))) else (rollbooklaw04_mixed.l0 k1 (wrap64 (Int.tmod (IntKind.u64.wrap (a1)) (IntKind.u64.wrap (wrap64 ((a0.size : Int) - 3))))) a2 a3 x9_1 true (wrap64 (x11_1 + 1))))) else (none)) = some r := by first | (rw [hji7] at H; exact H) | (simp only [hji7] at H ⊢; exact H)
          have hji7w : (IntKind.i64.wrap (8 * x11_1)) = ji7 := (i64_w _).trans hji7
          by_cases c8 : 0 ≤ (ji7)
          · rw [if_pos c8] at H
            have c8b0 := eq_true c8
            have c8b1 : decide (0 ≤ (ji7)) = true := decide_eq_true c8
            clear c8
            obtain ⟨ji9, hji9⟩ : ∃ j_ : Int, (shr .u32 a2 (ji7)) = j_ := ⟨_, rfl⟩
            replace H : (if ((ji9) % 256) = 0 then (rollbooklaw04_mixed.l0 k1 (wrap64 (Int.tmod (IntKind.u64.wrap (a1)) (IntKind.u64.wrap (wrap64 ((a0.size : Int) - 3))))) a2 a3 x9_1 x10_1 (wrap64 (x11_1 + 1))) else (if (wrap64 ((wrap64 (Int.tmod (IntKind.u64.wrap (a1)) (IntKind.u64.wrap (wrap64 ((a0.size : Int) - 3))))) + x11_1)) ≥ a3 then (if (wrap64 ((wrap64 (Int.tmod (IntKind.u64.wrap (a1)) (IntKind.u64.wrap (wrap64 ((a0.size : Int) - 3))))) + x11_1)) < (wrap64 (a3 + 4)) then (rollbooklaw04_mixed.l0 k1 (wrap64 (Int.tmod (IntKind.u64.wrap (a1)) (IntKind.u64.wrap (wrap64 ((a0.size : Int) - 3))))) a2 a3 true x10_1 (wrap64 (x11_1 + 1))) else (rollbooklaw04_mixed.l0 k1 (wrap64 (Int.tmod (IntKind.u64.wrap (a1)) (IntKind.u64.wrap (wrap64 ((a0.size : Int) - 3))))) a2 a3 x9_1 true (wrap64 (x11_1 + 1)))) else (rollbooklaw04_mixed.l0 k1 (wrap64 (Int.tmod (IntKind.u64.wrap (a1)) (IntKind.u64.wrap (wrap64 ((a0.size : Int) - 3))))) a2 a3 x9_1 true (wrap64 (x11_1 + 1))))) = some r := by first | (rw [hji9] at H; exact H) | (simp only [hji9] at H ⊢; exact H)
            have hji9_ : (a2 / 2 ^ min (ji7).toNat 32) = ji9 := hji9
            have hji9z : (ji7) ≤ 32 → (a2 / 2 ^ (ji7).toNat) = ji9 := shr_small hji9
            by_cases c10 : ((ji9) % 256) = 0
            · rw [if_pos c10] at H
              have c10b0 : (((ji9) % 256) == 0) = true := beq_iff_eq.mpr c10
              have c10b1 : (((ji9) % 256) != 0) = false := bne_eq_false_iff_eq.mpr c10
              clear c10
              have H' := Aside0.mk H
              clear H
              go_wp2
              go_roundg k1
              case measure => have := HK1.out; omega
              case rel => exact ⟨(x9_1), (x10_1), (wrap64 (x11_1 + 1)), (by first | rfl | (simp; done) | (simp [*]; done)), (by first | rfl | (simp; done) | (simp [*]; done)), (by first | rfl | (simp; done) | (simp [*]; done)), H', ⟨by have := HK1.out; omega⟩, by repeat (first | exact Drawn0.refl _ | apply Drawn0.step)⟩
            · rw [if_neg c10] at H
              have c10b0 : (((ji9) % 256) == 0) = false := beq_eq_false_iff_ne.mpr c10
              have c10b1 : (((ji9) % 256) != 0) = true := bne_iff_ne.mpr c10
              by_cases c11 : (wrap64 ((wrap64 (Int.tmod (IntKind.u64.wrap (a1)) (IntKind.u64.wrap (wrap64 ((a0.size : Int) - 3))))) + x11_1)) ≥ a3
              · rw [if_pos c11] at H
                have c11b0 : decide (a3 ≤ (wrap64 ((wrap64 (Int.tmod (IntKind.u64.wrap (a1)) (IntKind.u64.wrap (wrap64 ((a0.size : Int) - 3))))) + x11_1))) = true := decide_eq_true c11
                clear c11
                by_cases c12 : (wrap64 ((wrap64 (Int.tmod (IntKind.u64.wrap (a1)) (IntKind.u64.wrap (wrap64 ((a0.size : Int) - 3))))) + x11_1)) < (wrap64 (a3 + 4))
                · rw [if_pos c12] at H
                  have c12b0 : decide ((wrap64 ((wrap64 (Int.tmod (IntKind.u64.wrap (a1)) (IntKind.u64.wrap (wrap64 ((a0.size : Int) - 3))))) + x11_1)) < (wrap64 (a3 + 4))) = true := decide_eq_true c12
                  clear c12
                  have H' := Aside0.mk H
                  clear H
                  go_wp2
                  go_roundg k1
                  case measure => have := HK1.out; omega
                  case rel => exact ⟨(true), (x10_1), (wrap64 (x11_1 + 1)), (by first | rfl | (simp; done) | (simp [*]; done)), (by first | rfl | (simp; done) | (simp [*]; done)), (by first | rfl | (simp; done) | (simp [*]; done)), H', ⟨by have := HK1.out; omega⟩, by repeat (first | exact Drawn0.refl _ | apply Drawn0.step)⟩
                · rw [if_neg c12] at H
                  have c12b0 : decide ((wrap64 ((wrap64 (Int.tmod (IntKind.u64.wrap (a1)) (IntKind.u64.wrap (wrap64 ((a0.size : Int) - 3))))) + x11_1)) < (wrap64 (a3 + 4))) = false := decide_eq_false c12
                  clear c12
                  have H' := Aside0.mk H
                  clear H
                  go_wp2
                  go_roundg k1
                  case measure => have := HK1.out; omega
                  case rel => exact ⟨(x9_1), (true), (wrap64 (x11_1 + 1)), (by first | rfl | (simp; done) | (simp [*]; done)), (by first | rfl | (simp; done) | (simp [*]; done)), (by first | rfl | (simp; done) | (simp [*]; done)), H', ⟨by have := HK1.out; omega⟩, by repeat (first | exact Drawn0.refl _ | apply Drawn0.step)⟩
              · rw [if_neg c11] at H
                have c11b0 : decide (a3 ≤ (wrap64 ((wrap64 (Int.tmod (IntKind.u64.wrap (a1)) (IntKind.u64.wrap (wrap64 ((a0.size : Int) - 3))))) + x11_1))) = false := decide_eq_false c11
                clear c11
                have H' := Aside0.mk H
                clear H
                go_wp2
                go_roundg k1
                case measure => have := HK1.out; omega
                case rel => exact ⟨(x9_1), (true), (wrap64 (x11_1 + 1)), (by first | rfl | (simp; done) | (simp [*]; done)), (by first | rfl | (simp; done) | (simp [*]; done)), (by first | rfl | (simp; done) | (simp [*]; done)), H', ⟨by have := HK1.out; omega⟩, by repeat (first | exact Drawn0.refl _ | apply Drawn0.step)⟩
          · rw [if_neg c8] at H
            exact absurd H (by simp)
        · rw [if_neg c6] at H
          have c6b0 : decide (x11_1 < 4) = false := decide_eq_false c6
          clear c6
          by_cases c13 : x9_1 = true
          · subst c13
            have H1 : (some x10_1) = some r := by rw [if_pos rfl] at H; exact H
            clear H
            have H := H1
            clear H1
            obtain rfl := Option.some.inj H
            go_wp2
            go_ret
            exact ⟨by first | rfl | (simp; done) | (simp [*]; done), by repeat (first | exact Drawn0.refl _ | apply Drawn0.step)⟩
          · replace c13 := Bool.eq_false_iff.mpr c13
            subst c13
            have H1 : (some false) = some r := by rw [if_neg (show ¬ (false = true) by decide)] at H; exact H
            clear H
            have H := H1
            clear H1
            obtain rfl := Option.some.inj H
            go_wp2
            go_ret
            exact ⟨by first | rfl | (simp; done) | (simp [*]; done), by repeat (first | exact Drawn0.refl _ | apply Drawn0.step)⟩

end Go.Proofs.YtcoddeemfdnjpaaDoor.Fn
