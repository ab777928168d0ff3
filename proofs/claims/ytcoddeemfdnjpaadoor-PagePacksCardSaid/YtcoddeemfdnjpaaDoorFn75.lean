/- One function's walk: its lines were printed by the kit's print.py for this claim (one text a function). -/
import Derived.Test.YtcoddeemfdnjpaaDoorFnBase
import Derived.Test.YtcoddeemfdnjpaaDoorFn76
import Derived.Test.YtcoddeemfdnjpaaDoorFn77
namespace Go.Proofs.YtcoddeemfdnjpaaDoor.Fn
open Go.RowKit Go.Proofs.YtcoddeemfdnjpaaDoorW.PrintWords Go.Proofs.YtcoddeemfdnjpaaDoorW.PrintLast Go.Proofs.YtcoddeemfdnjpaaDoorW.PrintMore
attribute [local go_sem] max2_int min2_int max_two min_two max_three min_three max_four min_four   -- for this text's walks alone
set_option linter.unusedVariables false
set_option linter.unusedSimpArgs false
theorem mendcat_lit2 : (⟨#[82, 66]⟩ : ByteArray).size = 2 := rfl
theorem mendcat_lit8 : (⟨#[82, 79, 76, 76, 66, 79, 79, 75]⟩ : ByteArray).size = 8 := rfl

/-! ### rollbookref04_With: function 75 -/
def rollbookref04_With.f (k : Nat) (a0_0 : Int) (a0_1 : Int) (a0_2 : Int) (a0_3 : ByteArray) (a1 : ByteArray) : Option (ByteArray) := (rollbookref04_Number.f k a0_0 1).bind fun t139 => (if 2 + t139.size ≤ 9223372036854775807 then ((rollbookref04_Noughts.f k 1).bind fun t140 => (if ((⟨#[82, 66]⟩ : ByteArray) ++ t139).size + t140.size ≤ 9223372036854775807 then ((rollbookref04_Number.f k (a0_3.size : Int) 2).bind fun t141 => (if (((⟨#[82, 66]⟩ : ByteArray) ++ t139) ++ t140).size + t141.size ≤ 9223372036854775807 then ((rollbookref04_Number.f k a0_1 4).bind fun t142 => (if ((((⟨#[82, 66]⟩ : ByteArray) ++ t139) ++ t140) ++ t141).size + t142.size ≤ 9223372036854775807 then ((rollbookref04_Number.f k a0_2 8).bind fun t143 => (if (((((⟨#[82, 66]⟩ : ByteArray) ++ t139) ++ t140) ++ t141) ++ t142).size + t143.size ≤ 9223372036854775807 then (if ((((((⟨#[82, 66]⟩ : ByteArray) ++ t139) ++ t140) ++ t141) ++ t142) ++ t143).size + a1.size ≤ 9223372036854775807 then ((rollbookref04_Noughts.f k 2).bind fun t144 => (if (((((((⟨#[82, 66]⟩ : ByteArray) ++ t139) ++ t140) ++ t141) ++ t142) ++ t143) ++ a1).size + t144.size ≤ 9223372036854775807 then (if ((((((((⟨#[82, 66]⟩ : ByteArray) ++ t139) ++ t140) ++ t141) ++ t142) ++ t143) ++ a1) ++ t144).size + a0_3.size ≤ 9223372036854775807 then ((rollbookref04_Noughts.f k (wrap64 (488 - (a0_3.size : Int)))).bind fun t145 => (if (((((((((⟨#[82, 66]⟩ : ByteArray) ++ t139) ++ t140) ++ t141) ++ t142) ++ t143) ++ a1) ++ t144) ++ a0_3).size + t145.size ≤ 9223372036854775807 then (some ((((((((((⟨#[82, 66]⟩ : ByteArray) ++ t139) ++ t140) ++ t141) ++ t142) ++ t143) ++ a1) ++ t144) ++ a0_3) ++ t145)) else (none))) else (none)) else (none))) else (none)) else (none))) else (none))) else (none))) else (none))) else (none))
theorem rollbookref04_With.mono : ∀ a0 a1 a2 a3 a4 k, LeO (rollbookref04_With.f k a0 a1 a2 a3 a4) (rollbookref04_With.f (k + 1) a0 a1 a2 a3 a4) := by
  intro a0 a1 a2 a3 a4 k
  unfold rollbookref04_With.f
  repeat' first
      | (with_reducible exact rollbookref04_Noughts.mono _ _)
      | (with_reducible exact rollbookref04_Number.mono _ _ _)
      | (with_reducible exact LeO.refl _)
      | (with_reducible exact LeO.none _)
      | (with_reducible refine LeO.ite ?_ ?_)
      | (with_reducible refine LeO.bind ?_ (fun _ => ?_))
      | exact rollbookref04_Noughts.mono _ _
      | exact rollbookref04_Number.mono _ _ _
      | exact LeO.none _
      | refine LeO.ite ?_ ?_
      | refine LeO.bind ?_ (fun _ => ?_)
def rollbookref04_With.T1 : Bool × List (List Nat × List Nat) := (true, [([], []), ([0], [0]), ([1], [1]), ([2], [2]), ([2], []), ([3, 4], [3, 4]), ([], []), ([6], [6]), ([7], [7]), ([8, 4], [8]), ([5, 9], [5, 9]), ([], []), ([11], [11]), ([12, 9], [12]), ([10, 13], [10, 13]), ([], []), ([15], [15]), ([16, 13], [16]), ([14, 17], [14, 17]), ([], []), ([18, 19], [18, 19]), ([17], []), ([20, 21], [20, 21]), ([], []), ([23], [23]), ([22, 24], [22, 24]), ([], []), ([26], [26]), ([27], [27]), ([28], [28]), ([29, 21], [29]), ([25, 30], [25, 30]), ([31, 30, 0, 1, 2, 3, 4, 5, 6, 7, 8, 9, 10, 11, 12, 13, 14, 15, 16, 17, 18, 19, 20, 21, 22, 23, 24, 25, 26, 27, 28, 29, 30, 31], [31])])
def rollbookref04_With.B1 : List Nat := [0, 1, 3, 7, 7, 31, 0, 64, 192, 471, 1023, 0, 2048, 7127, 16383, 0, 32768, 113623, 262143, 0, 1048575, 244695, 4194303, 0, 8388608, 33554431, 0, 67108864, 201326592, 469762048, 1008974807, 2147483647, 4294967295]
theorem rollbookref04_With.tab1 : rtab .any (opsOf Tryd.f75 1) = rollbookref04_With.T1 := by kernel_rfl
theorem rollbookref04_With.bits1 : waitsOk rollbookref04_With.T1.2 rollbookref04_With.B1 = true := by kernel_rfl
set_option maxHeartbeats 8000000 in
set_option maxRecDepth 100000 in
theorem rollbookref04_With.calls (k : Nat) (a0_0 : Int) (a0_1 : Int) (a0_2 : Int) (a0_3 : ByteArray) (a1 : ByteArray) (r : ByteArray) (w : World) (h : rollbookref04_With.f k a0_0 a0_1 a0_2 a0_3 a1 = some r) :
    Calls Tryd.prog 75 #[.agg #[.int .i64 a0_0, .int .i64 a0_1, .int .i64 a0_2, .string a0_3], .string a1] w fun e w' => e = .returned (.string r) ∧ Below w.heap.size w w' := by
  have hu31 := Tryd.underlying31
  have HB := Aside0.mk (Below.refl w.heap.size w)
  have H : ((rollbookref04_Number.f k a0_0 1).bind fun t139 => (if 2 + t139.size ≤ 9223372036854775807 then ((rollbookref04_Noughts.f k 1).bind fun t140 => (if ((⟨#[82, 66]⟩ : ByteArray) ++ t139).size + t140.size ≤ 9223372036854775807 then ((rollbookref04_Number.f k (a0_3.size : Int) 2).bind fun t141 => (if (((⟨#[82, 66]⟩ : ByteArray) ++ t139) ++ t140).size + t141.size ≤ 9223372036854775807 then ((rollbookref04_Number.f k a0_1 4).bind fun t142 => (if ((((⟨#[82, 66]⟩ : ByteArray) ++ t139) ++ t140) ++ t141).size + t142.size ≤ 9223372036854775807 then ((rollbookref04_Number.f k a0_2 8).bind fun t143 => (if (((((⟨#[82, 66]⟩ : ByteArray) ++ t139) ++ t140) ++ t141) ++ t142).size + t143.size ≤ 9223372036854775807 then (if ((((((⟨#[82, 66]⟩ : ByteArray) ++ t139) ++ t140) ++ t141) ++ t142) ++ t143).size + a1.size ≤ 9223372036854775807 then ((rollbookref04_Noughts.f k 2).bind fun t144 => (if (((((((⟨#[82, 66]⟩ : ByteArray) ++ t139) ++ t140) ++ t141) ++ t142) ++ t143) ++ a1).size + t144.size ≤ 9223372036854775807 then (if ((((((((⟨#[82, 66]⟩ : ByteArray) ++ t139) ++ t140) ++ t141) ++ t142) ++ t143) ++ a1) ++ t144).size + a0_3.size ≤ 9223372036854775807 then ((rollbookref04_Noughts.f k (wrap64 (488 - (a0_3.size : Int)))).bind fun t145 => (if (((((((((⟨#[82, 66]⟩ : ByteArray) ++ t139) ++ t140) ++ t141) ++ t142) ++ t143) ++ a1) ++ t144) ++ a0_3).size + t145.size ≤ 9223372036854775807 then (some ((((((((((⟨#[82, 66]⟩ : ByteArray) ++ t139) ++ t140) ++ t141) ++ t142) ++ t143) ++ a1) ++ t144) ++ a0_3) ++ t145)) else (none))) else (none)) else (none))) else (none)) else (none))) else (none))) else (none))) else (none))) else (none))) = some r := h
  clear h
  replace H := Option.bind_eq_some_iff.mp H
  obtain ⟨t139, A30, H⟩ := H
  replace H : (if 2 + t139.size ≤ 9223372036854775807 then ((rollbookref04_Noughts.f k 1).bind fun t140 => (if ((⟨#[82, 66]⟩ : ByteArray) ++ t139).size + t140.size ≤ 9223372036854775807 then ((rollbookref04_Number.f k (a0_3.size : Int) 2).bind fun t141 => (if (((⟨#[82, 66]⟩ : ByteArray) ++ t139) ++ t140).size + t141.size ≤ 9223372036854775807 then ((rollbookref04_Number.f k a0_1 4).bind fun t142 => (if ((((⟨#[82, 66]⟩ : ByteArray) ++ t139) ++ t140) ++ t141).size + t142.size ≤ 9223372036854775807 then ((rollbookref04_Number.f k a0_2 8).bind fun t143 => (if (((((⟨#[82, 66]⟩ : ByteArray) ++ t139) ++ t140) ++ t141) ++ t142).size + t143.size ≤ 9223372036854775807 then (if ((((((⟨#[82, 66]⟩ : ByteArray) ++ t139) ++ t140) ++ t141) ++ t142) ++ t143).size + a1.size ≤ 9223372036854775807 then ((rollbookref04_Noughts.f k 2).bind fun t144 => (if (((((((⟨#[82, 66]⟩ : ByteArray) ++ t139) ++ t140) ++ t141) ++ t142) ++ t143) ++ a1).size + t144.size ≤ 9223372036854775807 then (if ((((((((⟨#[82, 66]⟩ : ByteArray) ++ t139) ++ t140) ++ t141) ++ t142) ++ t143) ++ a1) ++ t144).size + a0_3.size ≤ 9223372036854775807 then ((rollbookref04_Noughts.f k (wrap64 (488 - (a0_3.size : Int)))).bind fun t145 => (if (((((((((⟨#[82, 66]⟩ : ByteArray) ++ t139) ++ t140) ++ t141) ++ t142) ++ t143) ++ a1) ++ t144) ++ a0_3).size + t145.size ≤ 9223372036854775807 then (some ((((((((((⟨#[82, 66]⟩ : ByteArray) ++ t139) ++ t140) ++ t141) ++ t142) ++ t143) ++ a1) ++ t144) ++ a0_3) ++ t145)) else (none))) else (none)) else (none))) else (none)) else (none))) else (none))) else (none))) else (none))) else (none)) = some r := H
  have A3 := Aside0.mk A30
  clear A30
  by_cases c4 : 2 + t139.size ≤ 9223372036854775807
  · rw [if_pos c4] at H
    have c4b0 := eq_true c4
    have c4b1 : decide (2 + t139.size ≤ 9223372036854775807) = true := decide_eq_true c4
    try have c4b2 : (9223372036854775807 < 2 + t139.size) = False := eq_false (Nat.not_lt.2 c4)
    replace H := Option.bind_eq_some_iff.mp H
    obtain ⟨t140, A50, H⟩ := H
    replace H : (if ((⟨#[82, 66]⟩ : ByteArray) ++ t139).size + t140.size ≤ 9223372036854775807 then ((rollbookref04_Number.f k (a0_3.size : Int) 2).bind fun t141 => (if (((⟨#[82, 66]⟩ : ByteArray) ++ t139) ++ t140).size + t141.size ≤ 9223372036854775807 then ((rollbookref04_Number.f k a0_1 4).bind fun t142 => (if ((((⟨#[82, 66]⟩ : ByteArray) ++ t139) ++ t140) ++ t141).size + t142.size ≤ 9223372036854775807 then ((rollbookref04_Number.f k a0_2 8).bind fun t143 => (if (((((⟨#[82, 66]⟩ : ByteArray) ++ t139) ++ t140) ++ t141) ++ t142).size + t143.size ≤ 9223372036854775807 then (if ((((((⟨#[82, 66]⟩ : ByteArray) ++ t139) ++ t140) ++ t141) ++ t142) ++ t143).size + a1.size ≤ 9223372036854775807 then ((rollbookref04_Noughts.f k 2).bind fun t144 => (if (((((((⟨#[82, 66]⟩ : ByteArray) ++ t139) ++ t140) ++ t141) ++ t142) ++ t143) ++ a1).size + t144.size ≤ 9223372036854775807 then (if ((((((((⟨#[82, 66]⟩ : ByteArray) ++ t139) ++ t140) ++ t141) ++ t142) ++ t143) ++ a1) ++ t144).size + a0_3.size ≤ 9223372036854775807 then ((rollbookref04_Noughts.f k (wrap64 (488 - (a0_3.size : Int)))).bind fun t145 => (if (((((((((⟨#[82, 66]⟩ : ByteArray) ++ t139) ++ t140) ++ t141) ++ t142) ++ t143) ++ a1) ++ t144) ++ a0_3).size + t145.size ≤ 9223372036854775807 then (some ((((((((((⟨#[82, 66]⟩ : ByteArray) ++ t139) ++ t140) ++ t141) ++ t142) ++ t143) ++ a1) ++ t144) ++ a0_3) ++ t145)) else (none))) else (none)) else (none))) else (none)) else (none))) else (none))) else (none))) else (none)) = some r := H
    have A5 := Aside0.mk A50
    clear A50
    by_cases c6 : ((⟨#[82, 66]⟩ : ByteArray) ++ t139).size + t140.size ≤ 9223372036854775807
    · rw [if_pos c6] at H
      have c6b0 := eq_true c6
      have c6b1 : decide (((⟨#[82, 66]⟩ : ByteArray) ++ t139).size + t140.size ≤ 9223372036854775807) = true := decide_eq_true c6
      try have c6b2 : (9223372036854775807 < ((⟨#[82, 66]⟩ : ByteArray) ++ t139).size + t140.size) = False := eq_false (Nat.not_lt.2 c6)
      have nc6b2 := c6b2
      simp only [ByteArray.size_append, mendcat_lit2, mendcat_lit8] at nc6b2
      replace H := Option.bind_eq_some_iff.mp H
      obtain ⟨t141, A70, H⟩ := H
      replace H : (if (((⟨#[82, 66]⟩ : ByteArray) ++ t139) ++ t140).size + t141.size ≤ 9223372036854775807 then ((rollbookref04_Number.f k a0_1 4).bind fun t142 => (if ((((⟨#[82, 66]⟩ : ByteArray) ++ t139) ++ t140) ++ t141).size + t142.size ≤ 9223372036854775807 then ((rollbookref04_Number.f k a0_2 8).bind fun t143 => (if (((((⟨#[82, 66]⟩ : ByteArray) ++ t139) ++ t140) ++ t141) ++ t142).size + t143.size ≤ 9223372036854775807 then (if ((((((⟨#[82, 66]⟩ : ByteArray) ++ t139) ++ t140) ++ t141) ++ t142) ++ t143).size + a1.size ≤ 9223372036854775807 then ((rollbookref04_Noughts.f k 2).bind fun t144 => (if (((((((⟨#[82, 66]⟩ : ByteArray) ++ t139) ++ t140) ++ t141) ++ t142) ++ t143) ++ a1).size + t144.size ≤ 9223372036854775807 then (if ((((((((⟨#[82, 66]⟩ : ByteArray) ++ t139) ++ t140) ++ t141) ++ t142) ++ t143) ++ a1) ++ t144).size + a0_3.size ≤ 9223372036854775807 then ((rollbookref04_Noughts.f k (wrap64 (488 - (a0_3.size : Int)))).bind fun t145 => (if (((((((((⟨#[82, 66]⟩ : ByteArray) ++ t139) ++ t140) ++ t141) ++ t142) ++ t143) ++ a1) ++ t144) ++ a0_3).size + t145.size ≤ 9223372036854775807 then (some ((((((((((⟨#[82, 66]⟩ : ByteArray) ++ t139) ++ t140) ++ t141) ++ t142) ++ t143) ++ a1) ++ t144) ++ a0_3) ++ t145)) else (none))) else (none)) else (none))) else (none)) else (none))) else (none))) else (none)) = some r := H
      have A7 := Aside0.mk A70
      clear A70
      by_cases c8 : (((⟨#[82, 66]⟩ : ByteArray) ++ t139) ++ t140).size + t141.size ≤ 9223372036854775807
      · rw [if_pos c8] at H
        have c8b0 := eq_true c8
        have c8b1 : decide ((((⟨#[82, 66]⟩ : ByteArray) ++ t139) ++ t140).size + t141.size ≤ 9223372036854775807) = true := decide_eq_true c8
        try have c8b2 : (9223372036854775807 < (((⟨#[82, 66]⟩ : ByteArray) ++ t139) ++ t140).size + t141.size) = False := eq_false (Nat.not_lt.2 c8)
        have nc8b2 := c8b2
        simp only [ByteArray.size_append, mendcat_lit2, mendcat_lit8] at nc8b2
        replace H := Option.bind_eq_some_iff.mp H
        obtain ⟨t142, A90, H⟩ := H
        replace H : (if ((((⟨#[82, 66]⟩ : ByteArray) ++ t139) ++ t140) ++ t141).size + t142.size ≤ 9223372036854775807 then ((rollbookref04_Number.f k a0_2 8).bind fun t143 => (if (((((⟨#[82, 66]⟩ : ByteArray) ++ t139) ++ t140) ++ t141) ++ t142).size + t143.size ≤ 9223372036854775807 then (if ((((((⟨#[82, 66]⟩ : ByteArray) ++ t139) ++ t140) ++ t141) ++ t142) ++ t143).size + a1.size ≤ 9223372036854775807 then ((rollbookref04_Noughts.f k 2).bind fun t144 => (if (((((((⟨#[82, 66]⟩ : ByteArray) ++ t139) ++ t140) ++ t141) ++ t142) ++ t143) ++ a1).size + t144.size ≤ 9223372036854775807 then (if ((((((((⟨#[82, 66]⟩ : ByteArray) ++ t139) ++ t140) ++ t141) ++ t142) ++ t143) ++ a1) ++ t144).size + a0_3.size ≤ 9223372036854775807 then ((rollbookref04_Noughts.f k (wrap64 (488 - (a0_3.size : Int)))).bind fun t145 => (if (((((((((⟨#[82, 66]⟩ : ByteArray) ++ t139) ++ t140) ++ t141) ++ t142) ++ t143) ++ a1) ++ t144) ++ a0_3).size + t145.size ≤ 9223372036854775807 then (some ((((((((((⟨#[82, 66]⟩ : ByteArray) ++ t139) ++ t140) ++ t141) ++ t142) ++ t143) ++ a1) ++ t144) ++ a0_3) ++ t145)) else (none))) else (none)) else (none))) else (none)) else (none))) else (none)) = some r := H
        have A9 := Aside0.mk A90
        clear A90
        by_cases c10 : ((((⟨#[82, 66]⟩ : ByteArray) ++ t139) ++ t140) ++ t141).size + t142.size ≤ 9223372036854775807
        · rw [if_pos c10] at H
          have c10b0 := eq_true c10
          have c10b1 : decide (((((⟨#[82, 66]⟩ : ByteArray) ++ t139) ++ t140) ++ t141).size + t142.size ≤ 9223372036854775807) = true := decide_eq_true c10
          try have c10b2 : (9223372036854775807 < ((((⟨#[82, 66]⟩ : ByteArray) ++ t139) ++ t140) ++ t141).size + t142.size) = False := eq_false (Nat.not_lt.2 c10)
          have nc10b2 := c10b2
          simp only [ByteArray.size_append, mendcat_lit2, mendcat_lit8] at nc10b2
          replace H := Option.bind_eq_some_iff.mp H
          obtain ⟨t143, A110, H⟩ := H
          replace H : (if (((((⟨#[82, 66]⟩ : ByteArray) ++ t139) ++ t140) ++ t141) ++ t142).size + t143.size ≤ 9223372036854775807 then (if ((((((⟨#[82, 66]⟩ : ByteArray) ++ t139) ++ t140) ++ t141) ++ t142) ++ t143).size + a1.size ≤ 9223372036854775807 then ((rollbookref04_Noughts.f k 2).bind fun t144 => (if (((((((⟨#[82, 66]⟩ : ByteArray) ++ t139) ++ t140) ++ t141) ++ t142) ++ t143) ++ a1).size + t144.size ≤ 9223372036854775807 then (if ((((((((⟨#[82, 66]⟩ : ByteArray) ++ t139) ++ t140) ++ t141) ++ t142) ++ t143) ++ a1) ++ t144).size + a0_3.size ≤ 9223372036854775807 then ((rollbookref04_Noughts.f k (wrap64 (488 - (a0_3.size : Int)))).bind fun t145 => (if (((((((((⟨#[82, 66]⟩ : ByteArray) ++ t139) ++ t140) ++ t141) ++ t142) ++ t143) ++ a1) ++ t144) ++ a0_3).size + t145.size ≤ 9223372036854775807 then (some ((((((((((⟨#[82, 66]⟩ : ByteArray) ++ t139) ++ t140) ++ t141) ++ t142) ++ t143) ++ a1) ++ t144) ++ a0_3) ++ t145)) else (none))) else (none)) else (none))) else (none)) else (none)) = some r := H
          have A11 := Aside0.mk A110
          clear A110
          by_cases c12 : (((((⟨#[82, 66]⟩ : ByteArray) ++ t139) ++ t140) ++ t141) ++ t142).size + t143.size ≤ 9223372036854775807
          · rw [if_pos c12] at H
            have c12b0 := eq_true c12
            have c12b1 : decide ((((((⟨#[82, 66]⟩ : ByteArray) ++ t139) ++ t140) ++ t141) ++ t142).size + t143.size ≤ 9223372036854775807) = true := decide_eq_true c12
            try have c12b2 : (9223372036854775807 < (((((⟨#[82, 66]⟩ : ByteArray) ++ t139) ++ t140) ++ t141) ++ t142).size + t143.size) = False := eq_false (Nat.not_lt.2 c12)
            have nc12b2 := c12b2
            simp only [ByteArray.size_append, mendcat_lit2, mendcat_lit8] at nc12b2
            by_cases c13 : ((((((⟨#[82, 66]⟩ : ByteArray) ++ t139) ++ t140) ++ t141) ++ t142) ++ t143).size + a1.size ≤ 9223372036854775807
            · rw [if_pos c13] at H
              have c13b0 := eq_true c13
              have c13b1 : decide (((((((⟨#[82, 66]⟩ : ByteArray) ++ t139) ++ t140) ++ t141) ++ t142) ++ t143).size + a1.size ≤ 9223372036854775807) = true := decide_eq_true c13
              try have c13b2 : (9223372036854775807 < ((((((⟨#[82, 66]⟩ : ByteArray) ++ t139) ++ t140) ++ t141) ++ t142) ++ t143).size + a1.size) = False := eq_false (Nat.not_lt.2 c13)
              have nc13b2 := c13b2
              simp only [ByteArray.size_append, mendcat_lit2, mendcat_lit8] at nc13b2
              replace H := Option.bind_eq_some_iff.mp H
              obtain ⟨t144, A140, H⟩ := H
              replace H : (if (((((((⟨#[82, 66]⟩ : ByteArray) ++ t139) ++ t140) ++ t141) ++ t142) ++ t143) ++ a1).size + t144.size ≤ 9223372036854775807 then (if ((((((((⟨#[82, 66]⟩ : ByteArray) ++ t139) ++ t140) ++ t141) ++ t142) ++ t143) ++ a1) ++ t144).size + a0_3.size ≤ 9223372036854775807 then ((rollbookref04_Noughts.f k (wrap64 (488 - (a0_3.size : Int)))).bind fun t145 => (if (((((((((⟨#[82, 66]⟩ : ByteArray) ++ t139) ++ t140) ++ t141) ++ t142) ++ t143) ++ a1) ++ t144) ++ a0_3).size + t145.size ≤ 9223372036854775807 then (some ((((((((((⟨#[82, 66]⟩ : ByteArray) ++ t139) ++ t140) ++ t141) ++ t142) ++ t143) ++ a1) ++ t144) ++ a0_3) ++ t145)) else (none))) else (none)) else (none)) = some r := H
              have A14 := Aside0.mk A140
              clear A140
              by_cases c15 : (((((((⟨#[82, 66]⟩ : ByteArray) ++ t139) ++ t140) ++ t141) ++ t142) ++ t143) ++ a1).size + t144.size ≤ 9223372036854775807
              · rw [if_pos c15] at H
                have c15b0 := eq_true c15
                have c15b1 : decide ((((((((⟨#[82, 66]⟩ : ByteArray) ++ t139) ++ t140) ++ t141) ++ t142) ++ t143) ++ a1).size + t144.size ≤ 9223372036854775807) = true := decide_eq_true c15
                try have c15b2 : (9223372036854775807 < (((((((⟨#[82, 66]⟩ : ByteArray) ++ t139) ++ t140) ++ t141) ++ t142) ++ t143) ++ a1).size + t144.size) = False := eq_false (Nat.not_lt.2 c15)
                have nc15b2 := c15b2
                simp only [ByteArray.size_append, mendcat_lit2, mendcat_lit8] at nc15b2
                by_cases c16 : ((((((((⟨#[82, 66]⟩ : ByteArray) ++ t139) ++ t140) ++ t141) ++ t142) ++ t143) ++ a1) ++ t144).size + a0_3.size ≤ 9223372036854775807
                · rw [if_pos c16] at H
                  have c16b0 := eq_true c16
                  have c16b1 : decide (((((((((⟨#[82, 66]⟩ : ByteArray) ++ t139) ++ t140) ++ t141) ++ t142) ++ t143) ++ a1) ++ t144).size + a0_3.size ≤ 9223372036854775807) = true := decide_eq_true c16
                  try have c16b2 : (9223372036854775807 < ((((((((⟨#[82, 66]⟩ : ByteArray) ++ t139) ++ t140) ++ t141) ++ t142) ++ t143) ++ a1) ++ t144).size + a0_3.size) = False := eq_false (Nat.not_lt.2 c16)
                  have nc16b2 := c16b2
                  simp only [ByteArray.size_append, mendcat_lit2, mendcat_lit8] at nc16b2
                  replace H := Option.bind_eq_some_iff.mp H
                  obtain ⟨t145, A170, H⟩ := H
                  replace H : (if (((((((((⟨#[82, 66]⟩ : ByteArray) ++ t139) ++ t140) ++ t141) ++ t142) ++ t143) ++ a1) ++ t144) ++ a0_3).size + t145.size ≤ 9223372036854775807 then (some ((((((((((⟨#[82, 66]⟩ : ByteArray) ++ t139) ++ t140) ++ t141) ++ t142) ++ t143) ++ a1) ++ t144) ++ a0_3) ++ t145)) else (none)) = some r := H
                  have A17 := Aside0.mk A170
                  clear A170
                  by_cases c18 : (((((((((⟨#[82, 66]⟩ : ByteArray) ++ t139) ++ t140) ++ t141) ++ t142) ++ t143) ++ a1) ++ t144) ++ a0_3).size + t145.size ≤ 9223372036854775807
                  · rw [if_pos c18] at H
                    have c18b0 := eq_true c18
                    have c18b1 : decide ((((((((((⟨#[82, 66]⟩ : ByteArray) ++ t139) ++ t140) ++ t141) ++ t142) ++ t143) ++ a1) ++ t144) ++ a0_3).size + t145.size ≤ 9223372036854775807) = true := decide_eq_true c18
                    try have c18b2 : (9223372036854775807 < (((((((((⟨#[82, 66]⟩ : ByteArray) ++ t139) ++ t140) ++ t141) ++ t142) ++ t143) ++ a1) ++ t144) ++ a0_3).size + t145.size) = False := eq_false (Nat.not_lt.2 c18)
                    have nc18b2 := c18b2
                    simp only [ByteArray.size_append, mendcat_lit2, mendcat_lit8] at nc18b2
                    obtain rfl := Option.some.inj H
                    go_enter Tryd.func75, Tryd.ntmps75
                    try go_wp2_with (first | ((with_reducible refine gate_dst (N := 2) rfl ?_); refine box_event ?hg (N := 2) ?hd (cs := #[.int .i64 a0_0, .int .i64 a0_1, .int .i64 a0_2, .string a0_3]) (t := 31) ?hr ?_; (case hd => rfl); (case hg => rfl); (case hr => first | (go_simp; done) | (go_simp; rfl)); intro gb138 hg w19 hbox hb; have n0_ := Aside0.mk (below_step (by repeat (first | (with_reducible first | exact HB.out | apply below_alloc | apply pw_below_drewN | apply below_drew1) | exact HB.out)) hb); have n1_ := Aside0.mk (hbox); have n2_ := Aside0.mk ((by rw [hg]; exact (below_size (by repeat (first | (with_reducible first | exact HB.out | apply below_alloc | apply pw_below_drewN | apply below_drew1) | exact HB.out))) : w.heap.size ≤ gb138)); have n3_ := Aside0.mk ((by rw [hg]; exact (below_size (by repeat (first | (with_reducible first | exact HB.out | apply below_alloc | apply pw_below_drewN | apply below_drew1) | exact HB.out))) : w.heap.size ≤ gb138)); clear HB; have HB := n0_; have BK138 := n1_; have GW138 := n2_; have GE138 := n3_; clear n0_ n1_ n2_ n3_; clear hb hbox hg))
                    have n0_ := Aside0.mk (blk_drew BK138.out)
                    have n1_ := Aside0.mk (below_drew1 HB.out)
                    clear BK138
                    clear HB
                    have BK138 := n0_
                    have HB := n1_
                    clear n0_ n1_
                    refine start_ (n := 33) (S := fun w' => w'.cell? ⟨gb138, 0, none⟩ = some (.int .i64 a0_0) ∧ w'.cell? ⟨gb138, 1, none⟩ = some (.int .i64 a0_1) ∧ w'.cell? ⟨gb138, 2, none⟩ = some (.int .i64 a0_2) ∧ w'.cell? ⟨gb138, 3, none⟩ = some (.string a0_3)) (ds := []) #[false, false, false, false, false, false, false, false, false, false, false, false, false, false, false, false, false, false, false, false, false, false, false, false, false, false, false, false, false, false, false, false, false] (by kernel_rfl) rfl rfl ⟨(blk_cell BK138.out 0).trans rfl, (blk_cell BK138.out 1).trans rfl, (blk_cell BK138.out 2).trans rfl, (blk_cell BK138.out 3).trans rfl⟩ (fun hHeld => ?_); refine with_tabW rollbookref04_With.tab1 rollbookref04_With.bits1 (fun HT_ HW_ => ?_)
                    generalize w19.drew = w20 at BK138 HB hHeld ⊢
                    refine pure_ (i := 0) (N := some 5) (v := ?_) (a' := ?_) #[true, false, false, false, false, false, false, false, false, false, false, false, false, false, false, false, false, false, false, false, false, false, false, false, false, false, false, false, false, false, false, false, false] rfl rfl (any_of HT_.out (by kernel_rfl)) (fun _ _ _ h => h) (Or.inl ⟨by rfl, ?_⟩) ?_ ?_
                    rotate_left
                    · intro w'
                      go_simp
                      with_reducible rfl
                    rotate_left
                    · simp only [Act.put, List.setIfInBounds_toArray, List.set_cons_zero, List.set_cons_succ, i64_w, i32_w]
                      rfl
                    refine pure_ (i := 6) (N := some 11) (v := ?_) (a' := ?_) #[true, false, false, false, false, false, true, false, false, false, false, false, false, false, false, false, false, false, false, false, false, false, false, false, false, false, false, false, false, false, false, false, false] rfl rfl (any_of HT_.out (by kernel_rfl)) (fun _ _ _ h => h) (Or.inl ⟨by rfl, ?_⟩) ?_ ?_
                    rotate_left
                    · intro w'
                      go_simp
                      with_reducible rfl
                    rotate_left
                    · simp only [Act.put, List.setIfInBounds_toArray, List.set_cons_zero, List.set_cons_succ, i64_w, i32_w]
                      rfl
                    refine pure_ (i := 11) (N := some 16) (v := ?_) (a' := ?_) #[true, false, false, false, false, false, true, false, false, false, false, true, false, false, false, false, false, false, false, false, false, false, false, false, false, false, false, false, false, false, false, false, false] rfl rfl (any_of HT_.out (by kernel_rfl)) (fun _ _ _ h => h) (Or.inl ⟨by rfl, ?_⟩) ?_ ?_
                    rotate_left
                    · intro w'
                      go_simp
                      with_reducible rfl
                    rotate_left
                    · simp only [Act.put, List.setIfInBounds_toArray, List.set_cons_zero, List.set_cons_succ, i64_w, i32_w]
                      rfl
                    refine pure_ (i := 15) (N := some 20) (v := ?_) (a' := ?_) #[true, false, false, false, false, false, true, false, false, false, false, true, false, false, false, true, false, false, false, false, false, false, false, false, false, false, false, false, false, false, false, false, false] rfl rfl (any_of HT_.out (by kernel_rfl)) (fun _ _ _ h => h) (Or.inl ⟨by rfl, ?_⟩) ?_ ?_
                    rotate_left
                    · intro w'
                      go_simp
                      with_reducible rfl
                    rotate_left
                    · simp only [Act.put, List.setIfInBounds_toArray, List.set_cons_zero, List.set_cons_succ, i64_w, i32_w]
                      rfl
                    refine pure_ (i := 19) (N := some 24) (v := ?_) (a' := ?_) #[true, false, false, false, false, false, true, false, false, false, false, true, false, false, false, true, false, false, false, true, false, false, false, false, false, false, false, false, false, false, false, false, false] rfl rfl (any_of HT_.out (by kernel_rfl)) (fun _ _ _ h => h) (Or.inl ⟨by rfl, ?_⟩) ?_ ?_
                    rotate_left
                    · intro w'
                      go_simp
                      with_reducible rfl
                    rotate_left
                    · simp only [Act.put, List.setIfInBounds_toArray, List.set_cons_zero, List.set_cons_succ, i64_w, i32_w]
                      rfl
                    refine pure_ (i := 23) (N := some 28) (v := ?_) (a' := ?_) #[true, false, false, false, false, false, true, false, false, false, false, true, false, false, false, true, false, false, false, true, false, false, false, true, false, false, false, false, false, false, false, false, false] rfl rfl (any_of HT_.out (by kernel_rfl)) (fun _ _ _ h => h) (Or.inl ⟨by rfl, ?_⟩) ?_ ?_
                    rotate_left
                    · intro w'
                      go_simp
                      with_reducible rfl
                    rotate_left
                    · simp only [Act.put, List.setIfInBounds_toArray, List.set_cons_zero, List.set_cons_succ, i64_w, i32_w]
                      rfl
                    refine pure_ (i := 26) (N := some 31) (v := ?_) (a' := ?_) #[true, false, false, false, false, false, true, false, false, false, false, true, false, false, false, true, false, false, false, true, false, false, false, true, false, false, true, false, false, false, false, false, false] rfl rfl (any_of HT_.out (by kernel_rfl)) (fun _ _ _ h => h) (Or.inl ⟨by rfl, ?_⟩) ?_ ?_
                    rotate_left
                    · intro w'
                      go_simp
                      with_reducible rfl
                    rotate_left
                    · simp only [Act.put, List.setIfInBounds_toArray, List.set_cons_zero, List.set_cons_succ, i64_w, i32_w]
                      rfl
                    refine take_ (i := 1) (N := some 6) (v := ?_) (a' := ?_) #[true, true, false, false, false, false, true, false, false, false, false, true, false, false, false, true, false, false, false, true, false, false, false, true, false, false, true, false, false, false, false, false, false] rfl rfl (take_ofW HT_.out HW_.out (by kernel_rfl)) (fun _ _ _ h => h) (Or.inl ⟨by rfl, ?_⟩) hHeld ?_ ?_
                    rotate_left
                    · rintro w' ⟨s0, s1, s2, s3⟩
                      go_simp
                      with_reducible rfl
                    rotate_left
                    · simp only [Act.put, List.setIfInBounds_toArray, List.set_cons_zero, List.set_cons_succ, i64_w, i32_w]
                      rfl
                    refine take_ (i := 7) (N := some 12) (v := ?_) (a' := ?_) #[true, true, false, false, false, false, true, true, false, false, false, true, false, false, false, true, false, false, false, true, false, false, false, true, false, false, true, false, false, false, false, false, false] rfl rfl (take_ofW HT_.out HW_.out (by kernel_rfl)) (fun _ _ _ h => h) (Or.inl ⟨by rfl, ?_⟩) hHeld ?_ ?_
                    rotate_left
                    · rintro w' ⟨s0, s1, s2, s3⟩
                      go_simp
                      with_reducible rfl
                    rotate_left
                    · simp only [Act.put, List.setIfInBounds_toArray, List.set_cons_zero, List.set_cons_succ, i64_w, i32_w]
                      rfl
                    refine pure_ (i := 8) (N := some 13) (v := ?_) (a' := ?_) #[true, true, false, false, false, false, true, true, true, false, false, true, false, false, false, true, false, false, false, true, false, false, false, true, false, false, true, false, false, false, false, false, false] rfl rfl (any_of HT_.out (by kernel_rfl)) (fun _ _ _ h => h) (Or.inl ⟨by rfl, ?_⟩) ?_ ?_
                    rotate_left
                    · intro w'
                      go_simp
                      with_reducible rfl
                    rotate_left
                    · simp only [Act.put, List.setIfInBounds_toArray, List.set_cons_zero, List.set_cons_succ, i64_w, i32_w]
                      rfl
                    refine take_ (i := 12) (N := some 17) (v := ?_) (a' := ?_) #[true, true, false, false, false, false, true, true, true, false, false, true, true, false, false, true, false, false, false, true, false, false, false, true, false, false, true, false, false, false, false, false, false] rfl rfl (take_ofW HT_.out HW_.out (by kernel_rfl)) (fun _ _ _ h => h) (Or.inl ⟨by rfl, ?_⟩) hHeld ?_ ?_
                    rotate_left
                    · rintro w' ⟨s0, s1, s2, s3⟩
                      go_simp
                      with_reducible rfl
                    rotate_left
                    · simp only [Act.put, List.setIfInBounds_toArray, List.set_cons_zero, List.set_cons_succ, i64_w, i32_w]
                      rfl
                    refine take_ (i := 16) (N := some 21) (v := ?_) (a' := ?_) #[true, true, false, false, false, false, true, true, true, false, false, true, true, false, false, true, true, false, false, true, false, false, false, true, false, false, true, false, false, false, false, false, false] rfl rfl (take_ofW HT_.out HW_.out (by kernel_rfl)) (fun _ _ _ h => h) (Or.inl ⟨by rfl, ?_⟩) hHeld ?_ ?_
                    rotate_left
                    · rintro w' ⟨s0, s1, s2, s3⟩
                      go_simp
                      with_reducible rfl
                    rotate_left
                    · simp only [Act.put, List.setIfInBounds_toArray, List.set_cons_zero, List.set_cons_succ, i64_w, i32_w]
                      rfl
                    refine take_ (i := 24) (N := some 29) (v := ?_) (a' := ?_) #[true, true, false, false, false, false, true, true, true, false, false, true, true, false, false, true, true, false, false, true, false, false, false, true, true, false, true, false, false, false, false, false, false] rfl rfl (take_ofW HT_.out HW_.out (by kernel_rfl)) (fun _ _ _ h => h) (Or.inl ⟨by rfl, ?_⟩) hHeld ?_ ?_
                    rotate_left
                    · rintro w' ⟨s0, s1, s2, s3⟩
                      go_simp
                      with_reducible rfl
                    rotate_left
                    · simp only [Act.put, List.setIfInBounds_toArray, List.set_cons_zero, List.set_cons_succ, i64_w, i32_w]
                      rfl
                    refine take_ (i := 27) (N := some 32) (v := ?_) (a' := ?_) #[true, true, false, false, false, false, true, true, true, false, false, true, true, false, false, true, true, false, false, true, false, false, false, true, true, false, true, true, false, false, false, false, false] rfl rfl (take_ofW HT_.out HW_.out (by kernel_rfl)) (fun _ _ _ h => h) (Or.inl ⟨by rfl, ?_⟩) hHeld ?_ ?_
                    rotate_left
                    · rintro w' ⟨s0, s1, s2, s3⟩
                      go_simp
                      with_reducible rfl
                    rotate_left
                    · simp only [Act.put, List.setIfInBounds_toArray, List.set_cons_zero, List.set_cons_succ, i64_w, i32_w]
                      rfl
                    refine pure_ (i := 28) (N := some 33) (v := ?_) (a' := ?_) #[true, true, false, false, false, false, true, true, true, false, false, true, true, false, false, true, true, false, false, true, false, false, false, true, true, false, true, true, true, false, false, false, false] rfl rfl (any_of HT_.out (by kernel_rfl)) (fun _ _ _ h => h) (Or.inl ⟨by rfl, ?_⟩) ?_ ?_
                    rotate_left
                    · intro w'
                      go_simp
                      with_reducible rfl
                    rotate_left
                    · simp only [Act.put, List.setIfInBounds_toArray, List.set_cons_zero, List.set_cons_succ, i64_w, i32_w]
                      rfl
                    refine pure_ (i := 29) (N := some 34) (v := ?_) (a' := ?_) #[true, true, false, false, false, false, true, true, true, false, false, true, true, false, false, true, true, false, false, true, false, false, false, true, true, false, true, true, true, true, false, false, false] rfl rfl (any_of HT_.out (by kernel_rfl)) (fun _ _ _ h => h) (Or.inl ⟨by rfl, ?_⟩) ?_ ?_
                    rotate_left
                    · intro w'
                      go_simp
                      with_reducible rfl
                    rotate_left
                    · simp only [Act.put, List.setIfInBounds_toArray, List.set_cons_zero, List.set_cons_succ, i64_w, i32_w]
                      rfl
                    refine one_ (i := 2) (N := some 7) #[true, true, true, false, false, false, true, true, true, false, false, true, true, false, false, true, true, false, false, true, false, false, false, true, true, false, true, true, true, true, false, false, false] rfl rfl (one_of HT_.out (by kernel_rfl)) (by decide) (fun K hK => ?_)
                    refine goes_ Tryd.func77 (by kernel_rfl) rfl #[.int .i64 a0_0, .int .i64 1] (by rfl) rfl rfl (by (try simp only [List.map_toArray, List.map_cons, List.map_nil]); first | done | rfl | (simp only [List.length_drop, List.length_take]; rfl)) ?_
                    with_reducible refine (rollbookref04_Number.calls k a0_0 1 t139 _ A3.out).mono ?_
                    rintro e w21 ⟨rfl, hb⟩
                    refine ⟨_, rfl, ?_⟩
                    have n0_ := Aside0.mk (blk_below (g := gb138) (o := .cells #[.int .i64 a0_0, .int .i64 a0_1, .int .i64 a0_2, .string a0_3] 31 (0, 0)) (by (with_reducible repeat (first | refine blk_drewN ?_ _ | refine blk_drew ?_ | refine blk_alloc ?_ _)); exact BK138.out) hb)
                    have n1_ := Aside0.mk (below_step (by repeat (first | (with_reducible first | exact HB.out | apply below_alloc | apply pw_below_drewN | apply below_drew1 | refine below_set ?_ GE138.out) | exact HB.out)) hb)
                    clear BK138
                    clear HB
                    have BK138 := n0_
                    have HB := n1_
                    clear n0_ n1_
                    (try clear hb)
                    (try clear hb2)
                    (try clear hk)
                    (try clear hi)
                    refine hK.out _ _ ⟨(blk_cell BK138.out 0).trans rfl, (blk_cell BK138.out 1).trans rfl, (blk_cell BK138.out 2).trans rfl, (blk_cell BK138.out 3).trans rfl⟩ (fun hHeld => ?_)
                    clear hK K
                    refine norm_ (a' := ?_) ?_ ?_
                    rotate_left
                    · show Act.put _ (some 7) _ = _
                      simp only [Act.put, List.setIfInBounds_toArray, List.set_cons_zero, List.set_cons_succ, i64_w, i32_w]
                      rfl
                    refine pure_ (i := 3) (N := some 8) (v := ?_) (a' := ?_) #[true, true, true, true, false, false, true, true, true, false, false, true, true, false, false, true, true, false, false, true, false, false, false, true, true, false, true, true, true, true, false, false, false] rfl rfl (any_of HT_.out (by kernel_rfl)) (fun _ _ _ h => h) (Or.inl ⟨by rfl, ?_⟩) ?_ ?_
                    rotate_left
                    · intro w'
                      go_simp
                      with_reducible rfl
                    rotate_left
                    · simp only [Act.put, List.setIfInBounds_toArray, List.set_cons_zero, List.set_cons_succ, i64_w, i32_w]
                      rfl
                    refine one_ (i := 4) (N := some 9) #[true, true, true, true, true, false, true, true, true, false, false, true, true, false, false, true, true, false, false, true, false, false, false, true, true, false, true, true, true, true, false, false, false] rfl rfl (one_of HT_.out (by kernel_rfl)) (by decide) (fun K hK => ?_)
                    refine goes_ Tryd.func76 (by kernel_rfl) rfl #[.int .i64 1] (by rfl) rfl rfl (by (try simp only [List.map_toArray, List.map_cons, List.map_nil]); first | done | rfl | (simp only [List.length_drop, List.length_take]; rfl)) ?_
                    with_reducible refine (rollbookref04_Noughts.calls k 1 t140 _ A5.out).mono ?_
                    rintro e w22 ⟨rfl, hb⟩
                    refine ⟨_, rfl, ?_⟩
                    have n0_ := Aside0.mk (blk_below (g := gb138) (o := .cells #[.int .i64 a0_0, .int .i64 a0_1, .int .i64 a0_2, .string a0_3] 31 (0, 0)) (by (with_reducible repeat (first | refine blk_drewN ?_ _ | refine blk_drew ?_ | refine blk_alloc ?_ _)); exact BK138.out) hb)
                    have n1_ := Aside0.mk (below_step (by repeat (first | (with_reducible first | exact HB.out | apply below_alloc | apply pw_below_drewN | apply below_drew1 | refine below_set ?_ GE138.out) | exact HB.out)) hb)
                    clear BK138
                    clear HB
                    have BK138 := n0_
                    have HB := n1_
                    clear n0_ n1_
                    (try clear hb)
                    (try clear hb2)
                    (try clear hk)
                    (try clear hi)
                    refine hK.out _ _ ⟨(blk_cell BK138.out 0).trans rfl, (blk_cell BK138.out 1).trans rfl, (blk_cell BK138.out 2).trans rfl, (blk_cell BK138.out 3).trans rfl⟩ (fun hHeld => ?_)
                    clear hK K
                    refine norm_ (a' := ?_) ?_ ?_
                    rotate_left
                    · show Act.put _ (some 9) _ = _
                      simp only [Act.put, List.setIfInBounds_toArray, List.set_cons_zero, List.set_cons_succ, i64_w, i32_w]
                      rfl
                    refine pure_ (i := 5) (N := some 10) (v := ?_) (a' := ?_) #[true, true, true, true, true, true, true, true, true, false, false, true, true, false, false, true, true, false, false, true, false, false, false, true, true, false, true, true, true, true, false, false, false] rfl rfl (any_of HT_.out (by kernel_rfl)) (fun _ _ _ h => h) (Or.inl ⟨by rfl, ?_⟩) ?_ ?_
                    rotate_left
                    · intro w'
                      go_simp
                      with_reducible rfl
                    rotate_left
                    · simp only [Act.put, List.setIfInBounds_toArray, List.set_cons_zero, List.set_cons_succ, i64_w, i32_w]
                      rfl
                    refine one_ (i := 9) (N := some 14) #[true, true, true, true, true, true, true, true, true, true, false, true, true, false, false, true, true, false, false, true, false, false, false, true, true, false, true, true, true, true, false, false, false] rfl rfl (one_of HT_.out (by kernel_rfl)) (by decide) (fun K hK => ?_)
                    refine goes_ Tryd.func77 (by kernel_rfl) rfl #[.int .i64 (a0_3.size : Int), .int .i64 2] (by rfl) rfl rfl (by (try simp only [List.map_toArray, List.map_cons, List.map_nil]); first | done | rfl | (simp only [List.length_drop, List.length_take]; rfl)) ?_
                    with_reducible refine (rollbookref04_Number.calls k (a0_3.size : Int) 2 t141 _ A7.out).mono ?_
                    rintro e w23 ⟨rfl, hb⟩
                    refine ⟨_, rfl, ?_⟩
                    have n0_ := Aside0.mk (blk_below (g := gb138) (o := .cells #[.int .i64 a0_0, .int .i64 a0_1, .int .i64 a0_2, .string a0_3] 31 (0, 0)) (by (with_reducible repeat (first | refine blk_drewN ?_ _ | refine blk_drew ?_ | refine blk_alloc ?_ _)); exact BK138.out) hb)
                    have n1_ := Aside0.mk (below_step (by repeat (first | (with_reducible first | exact HB.out | apply below_alloc | apply pw_below_drewN | apply below_drew1 | refine below_set ?_ GE138.out) | exact HB.out)) hb)
                    clear BK138
                    clear HB
                    have BK138 := n0_
                    have HB := n1_
                    clear n0_ n1_
                    (try clear hb)
                    (try clear hb2)
                    (try clear hk)
                    (try clear hi)
                    refine hK.out _ _ ⟨(blk_cell BK138.out 0).trans rfl, (blk_cell BK138.out 1).trans rfl, (blk_cell BK138.out 2).trans rfl, (blk_cell BK138.out 3).trans rfl⟩ (fun hHeld => ?_)
                    clear hK K
                    refine norm_ (a' := ?_) ?_ ?_
                    rotate_left
                    · show Act.put _ (some 14) _ = _
                      simp only [Act.put, List.setIfInBounds_toArray, List.set_cons_zero, List.set_cons_succ, i64_w, i32_w]
                      rfl
                    refine pure_ (i := 10) (N := some 15) (v := ?_) (a' := ?_) #[true, true, true, true, true, true, true, true, true, true, true, true, true, false, false, true, true, false, false, true, false, false, false, true, true, false, true, true, true, true, false, false, false] rfl rfl (any_of HT_.out (by kernel_rfl)) (fun _ _ _ h => h) (Or.inl ⟨by rfl, ?_⟩) ?_ ?_
                    rotate_left
                    · intro w'
                      go_simp
                      with_reducible rfl
                    rotate_left
                    · simp only [Act.put, List.setIfInBounds_toArray, List.set_cons_zero, List.set_cons_succ, i64_w, i32_w]
                      rfl
                    refine one_ (i := 13) (N := some 18) #[true, true, true, true, true, true, true, true, true, true, true, true, true, true, false, true, true, false, false, true, false, false, false, true, true, false, true, true, true, true, false, false, false] rfl rfl (one_of HT_.out (by kernel_rfl)) (by decide) (fun K hK => ?_)
                    refine goes_ Tryd.func77 (by kernel_rfl) rfl #[.int .i64 a0_1, .int .i64 4] (by rfl) rfl rfl (by (try simp only [List.map_toArray, List.map_cons, List.map_nil]); first | done | rfl | (simp only [List.length_drop, List.length_take]; rfl)) ?_
                    with_reducible refine (rollbookref04_Number.calls k a0_1 4 t142 _ A9.out).mono ?_
                    rintro e w24 ⟨rfl, hb⟩
                    refine ⟨_, rfl, ?_⟩
                    have n0_ := Aside0.mk (blk_below (g := gb138) (o := .cells #[.int .i64 a0_0, .int .i64 a0_1, .int .i64 a0_2, .string a0_3] 31 (0, 0)) (by (with_reducible repeat (first | refine blk_drewN ?_ _ | refine blk_drew ?_ | refine blk_alloc ?_ _)); exact BK138.out) hb)
                    have n1_ := Aside0.mk (below_step (by repeat (first | (with_reducible first | exact HB.out | apply below_alloc | apply pw_below_drewN | apply below_drew1 | refine below_set ?_ GE138.out) | exact HB.out)) hb)
                    clear BK138
                    clear HB
                    have BK138 := n0_
                    have HB := n1_
                    clear n0_ n1_
                    (try clear hb)
                    (try clear hb2)
                    (try clear hk)
                    (try clear hi)
                    refine hK.out _ _ ⟨(blk_cell BK138.out 0).trans rfl, (blk_cell BK138.out 1).trans rfl, (blk_cell BK138.out 2).trans rfl, (blk_cell BK138.out 3).trans rfl⟩ (fun hHeld => ?_)
                    clear hK K
                    refine norm_ (a' := ?_) ?_ ?_
                    rotate_left
                    · show Act.put _ (some 18) _ = _
                      simp only [Act.put, List.setIfInBounds_toArray, List.set_cons_zero, List.set_cons_succ, i64_w, i32_w]
                      rfl
                    refine pure_ (i := 14) (N := some 19) (v := ?_) (a' := ?_) #[true, true, true, true, true, true, true, true, true, true, true, true, true, true, true, true, true, false, false, true, false, false, false, true, true, false, true, true, true, true, false, false, false] rfl rfl (any_of HT_.out (by kernel_rfl)) (fun _ _ _ h => h) (Or.inl ⟨by rfl, ?_⟩) ?_ ?_
                    rotate_left
                    · intro w'
                      go_simp
                      with_reducible rfl
                    rotate_left
                    · simp only [Act.put, List.setIfInBounds_toArray, List.set_cons_zero, List.set_cons_succ, i64_w, i32_w]
                      rfl
                    refine one_ (i := 17) (N := some 22) #[true, true, true, true, true, true, true, true, true, true, true, true, true, true, true, true, true, true, false, true, false, false, false, true, true, false, true, true, true, true, false, false, false] rfl rfl (one_of HT_.out (by kernel_rfl)) (by decide) (fun K hK => ?_)
                    refine goes_ Tryd.func77 (by kernel_rfl) rfl #[.int .i64 a0_2, .int .i64 8] (by rfl) rfl rfl (by (try simp only [List.map_toArray, List.map_cons, List.map_nil]); first | done | rfl | (simp only [List.length_drop, List.length_take]; rfl)) ?_
                    with_reducible refine (rollbookref04_Number.calls k a0_2 8 t143 _ A11.out).mono ?_
                    rintro e w25 ⟨rfl, hb⟩
                    refine ⟨_, rfl, ?_⟩
                    have n0_ := Aside0.mk (blk_below (g := gb138) (o := .cells #[.int .i64 a0_0, .int .i64 a0_1, .int .i64 a0_2, .string a0_3] 31 (0, 0)) (by (with_reducible repeat (first | refine blk_drewN ?_ _ | refine blk_drew ?_ | refine blk_alloc ?_ _)); exact BK138.out) hb)
                    have n1_ := Aside0.mk (below_step (by repeat (first | (with_reducible first | exact HB.out | apply below_alloc | apply pw_below_drewN | apply below_drew1 | refine below_set ?_ GE138.out) | exact HB.out)) hb)
                    clear BK138
                    clear HB
                    have BK138 := n0_
                    have HB := n1_
                    clear n0_ n1_
                    (try clear hb)
                    (try clear hb2)
                    (try clear hk)
                    (try clear hi)
                    refine hK.out _ _ ⟨(blk_cell BK138.out 0).trans rfl, (blk_cell BK138.out 1).trans rfl, (blk_cell BK138.out 2).trans rfl, (blk_cell BK138.out 3).trans rfl⟩ (fun hHeld => ?_)
                    clear hK K
                    refine norm_ (a' := ?_) ?_ ?_
                    rotate_left
                    · show Act.put _ (some 22) _ = _
                      simp only [Act.put, List.setIfInBounds_toArray, List.set_cons_zero, List.set_cons_succ, i64_w, i32_w]
                      rfl
                    refine pure_ (i := 18) (N := some 23) (v := ?_) (a' := ?_) #[true, true, true, true, true, true, true, true, true, true, true, true, true, true, true, true, true, true, true, true, false, false, false, true, true, false, true, true, true, true, false, false, false] rfl rfl (any_of HT_.out (by kernel_rfl)) (fun _ _ _ h => h) (Or.inl ⟨by rfl, ?_⟩) ?_ ?_
                    rotate_left
                    · intro w'
                      go_simp
                      with_reducible rfl
                    rotate_left
                    · simp only [Act.put, List.setIfInBounds_toArray, List.set_cons_zero, List.set_cons_succ, i64_w, i32_w]
                      rfl
                    refine pure_ (i := 20) (N := some 25) (v := ?_) (a' := ?_) #[true, true, true, true, true, true, true, true, true, true, true, true, true, true, true, true, true, true, true, true, true, false, false, true, true, false, true, true, true, true, false, false, false] rfl rfl (any_of HT_.out (by kernel_rfl)) (fun _ _ _ h => h) (Or.inl ⟨by rfl, ?_⟩) ?_ ?_
                    rotate_left
                    · intro w'
                      go_simp
                      with_reducible rfl
                    rotate_left
                    · simp only [Act.put, List.setIfInBounds_toArray, List.set_cons_zero, List.set_cons_succ, i64_w, i32_w]
                      rfl
                    refine one_ (i := 21) (N := some 26) #[true, true, true, true, true, true, true, true, true, true, true, true, true, true, true, true, true, true, true, true, true, true, false, true, true, false, true, true, true, true, false, false, false] rfl rfl (one_of HT_.out (by kernel_rfl)) (by decide) (fun K hK => ?_)
                    refine goes_ Tryd.func76 (by kernel_rfl) rfl #[.int .i64 2] (by rfl) rfl rfl (by (try simp only [List.map_toArray, List.map_cons, List.map_nil]); first | done | rfl | (simp only [List.length_drop, List.length_take]; rfl)) ?_
                    with_reducible refine (rollbookref04_Noughts.calls k 2 t144 _ A14.out).mono ?_
                    rintro e w26 ⟨rfl, hb⟩
                    refine ⟨_, rfl, ?_⟩
                    have n0_ := Aside0.mk (blk_below (g := gb138) (o := .cells #[.int .i64 a0_0, .int .i64 a0_1, .int .i64 a0_2, .string a0_3] 31 (0, 0)) (by (with_reducible repeat (first | refine blk_drewN ?_ _ | refine blk_drew ?_ | refine blk_alloc ?_ _)); exact BK138.out) hb)
                    have n1_ := Aside0.mk (below_step (by repeat (first | (with_reducible first | exact HB.out | apply below_alloc | apply pw_below_drewN | apply below_drew1 | refine below_set ?_ GE138.out) | exact HB.out)) hb)
                    clear BK138
                    clear HB
                    have BK138 := n0_
                    have HB := n1_
                    clear n0_ n1_
                    (try clear hb)
                    (try clear hb2)
                    (try clear hk)
                    (try clear hi)
                    refine hK.out _ _ ⟨(blk_cell BK138.out 0).trans rfl, (blk_cell BK138.out 1).trans rfl, (blk_cell BK138.out 2).trans rfl, (blk_cell BK138.out 3).trans rfl⟩ (fun hHeld => ?_)
                    clear hK K
                    refine norm_ (a' := ?_) ?_ ?_
                    rotate_left
                    · show Act.put _ (some 26) _ = _
                      simp only [Act.put, List.setIfInBounds_toArray, List.set_cons_zero, List.set_cons_succ, i64_w, i32_w]
                      rfl
                    refine pure_ (i := 22) (N := some 27) (v := ?_) (a' := ?_) #[true, true, true, true, true, true, true, true, true, true, true, true, true, true, true, true, true, true, true, true, true, true, true, true, true, false, true, true, true, true, false, false, false] rfl rfl (any_of HT_.out (by kernel_rfl)) (fun _ _ _ h => h) (Or.inl ⟨by rfl, ?_⟩) ?_ ?_
                    rotate_left
                    · intro w'
                      go_simp
                      with_reducible rfl
                    rotate_left
                    · simp only [Act.put, List.setIfInBounds_toArray, List.set_cons_zero, List.set_cons_succ, i64_w, i32_w]
                      rfl
                    refine pure_ (i := 25) (N := some 30) (v := ?_) (a' := ?_) #[true, true, true, true, true, true, true, true, true, true, true, true, true, true, true, true, true, true, true, true, true, true, true, true, true, true, true, true, true, true, false, false, false] rfl rfl (any_of HT_.out (by kernel_rfl)) (fun _ _ _ h => h) (Or.inl ⟨by rfl, ?_⟩) ?_ ?_
                    rotate_left
                    · intro w'
                      go_simp
                      with_reducible rfl
                    rotate_left
                    · simp only [Act.put, List.setIfInBounds_toArray, List.set_cons_zero, List.set_cons_succ, i64_w, i32_w]
                      rfl
                    refine one_ (i := 30) (N := some 35) #[true, true, true, true, true, true, true, true, true, true, true, true, true, true, true, true, true, true, true, true, true, true, true, true, true, true, true, true, true, true, true, false, false] rfl rfl (one_of HT_.out (by kernel_rfl)) (by decide) (fun K hK => ?_)
                    refine goes_ Tryd.func76 (by kernel_rfl) rfl #[.int .i64 (wrap64 (488 - (a0_3.size : Int)))] (by rfl) rfl rfl (by (try simp only [List.map_toArray, List.map_cons, List.map_nil]); first | done | rfl | (simp only [List.length_drop, List.length_take]; rfl)) ?_
                    with_reducible refine (rollbookref04_Noughts.calls k (wrap64 (488 - (a0_3.size : Int))) t145 _ A17.out).mono ?_
                    rintro e w27 ⟨rfl, hb⟩
                    refine ⟨_, rfl, ?_⟩
                    have n0_ := Aside0.mk (blk_below (g := gb138) (o := .cells #[.int .i64 a0_0, .int .i64 a0_1, .int .i64 a0_2, .string a0_3] 31 (0, 0)) (by (with_reducible repeat (first | refine blk_drewN ?_ _ | refine blk_drew ?_ | refine blk_alloc ?_ _)); exact BK138.out) hb)
                    have n1_ := Aside0.mk (below_step (by repeat (first | (with_reducible first | exact HB.out | apply below_alloc | apply pw_below_drewN | apply below_drew1 | refine below_set ?_ GE138.out) | exact HB.out)) hb)
                    clear BK138
                    clear HB
                    have BK138 := n0_
                    have HB := n1_
                    clear n0_ n1_
                    (try clear hb)
                    (try clear hb2)
                    (try clear hk)
                    (try clear hi)
                    refine hK.out _ _ ⟨(blk_cell BK138.out 0).trans rfl, (blk_cell BK138.out 1).trans rfl, (blk_cell BK138.out 2).trans rfl, (blk_cell BK138.out 3).trans rfl⟩ (fun hHeld => ?_)
                    clear hK K
                    refine norm_ (a' := ?_) ?_ ?_
                    rotate_left
                    · show Act.put _ (some 35) _ = _
                      simp only [Act.put, List.setIfInBounds_toArray, List.set_cons_zero, List.set_cons_succ, i64_w, i32_w]
                      rfl
                    refine pure_ (i := 31) (N := some 36) (v := ?_) (a' := ?_) #[true, true, true, true, true, true, true, true, true, true, true, true, true, true, true, true, true, true, true, true, true, true, true, true, true, true, true, true, true, true, true, true, false] rfl rfl (any_of HT_.out (by kernel_rfl)) (fun _ _ _ h => h) (Or.inl ⟨by rfl, ?_⟩) ?_ ?_
                    rotate_left
                    · intro w'
                      go_simp
                      with_reducible rfl
                    rotate_left
                    · simp only [Act.put, List.setIfInBounds_toArray, List.set_cons_zero, List.set_cons_succ, i64_w, i32_w]
                      rfl
                    refine pure_ (i := 32) (N := some 4) (v := ?_) (a' := ?_) #[true, true, true, true, true, true, true, true, true, true, true, true, true, true, true, true, true, true, true, true, true, true, true, true, true, true, true, true, true, true, true, true, true] rfl rfl (any_of HT_.out (by kernel_rfl)) (fun _ _ _ h => h) (Or.inl ⟨by rfl, ?_⟩) ?_ ?_
                    rotate_left
                    · intro w'
                      go_simp
                      with_reducible rfl
                    rotate_left
                    · simp only [Act.put, List.setIfInBounds_toArray, List.set_cons_zero, List.set_cons_succ, i64_w, i32_w]
                      rfl
                    refine done_ (done_of HT_.out (by kernel_rfl)) ?_
                    try go_wp2
                    go_ret
                    exact ⟨by first | rfl | (simp [errW_none, errW_some] <;> rfl) | (simp [*, errW_none, errW_some] <;> rfl), by repeat (first | (with_reducible first | exact HB.out | apply below_alloc | apply pw_below_drewN | apply below_drew1 | refine below_set ?_ GE138.out) | exact HB.out)⟩
                  · rw [if_neg c18] at H
                    exact absurd H (by simp)
                · rw [if_neg c16] at H
                  exact absurd H (by simp)
              · rw [if_neg c15] at H
                exact absurd H (by simp)
            · rw [if_neg c13] at H
              exact absurd H (by simp)
          · rw [if_neg c12] at H
            exact absurd H (by simp)
        · rw [if_neg c10] at H
          exact absurd H (by simp)
      · rw [if_neg c8] at H
        exact absurd H (by simp)
    · rw [if_neg c6] at H
      exact absurd H (by simp)
  · rw [if_neg c4] at H
    exact absurd H (by simp)

end Go.Proofs.YtcoddeemfdnjpaaDoor.Fn
