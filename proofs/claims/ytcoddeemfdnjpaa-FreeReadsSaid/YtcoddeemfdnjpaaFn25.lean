/- One function's walk: its lines were printed by the kit's print.py for this claim (one text a function). -/
import Derived.Test.YtcoddeemfdnjpaaFnBase
import Derived.Test.YtcoddeemfdnjpaaFn27
import Derived.Test.YtcoddeemfdnjpaaFn37
namespace Go.Proofs.Ytcoddeemfdnjpaa.Fn
open Go.RowKit Go.Proofs.YtcoddeemfdnjpaaW.PrintWords Go.Proofs.YtcoddeemfdnjpaaW.PrintLast Go.Proofs.YtcoddeemfdnjpaaW.PrintMore
attribute [local go_sem] max2_int min2_int max_two min_two max_three min_three max_four min_four   -- for this text's walks alone
set_option linter.unusedVariables false
set_option linter.unusedSimpArgs false

/-! ### rollbookref08_Decode: function 25 -/
mutual
def rollbookref08_Decode.j0 : Nat → ByteArray → Int → Bool → Option (Int × (List (S28)) × Int)
  | 0, _, _, _ => none
  | k + 1, x0, x5, x26 => if x26 = true then (some (0, ([] : List (S28)), 4)) else (rollbookref08_Decode.l0 k x0 x5 (([] : List (S28))) 6)
def rollbookref08_Decode.l0 : Nat → ByteArray → Int → List (S28) → Int → Option (Int × (List (S28)) × Int)
  | 0, _, _, _, _ => none
  | k + 1, x0, x5, x7, x8 => if (wrap64 (x8 + 12)) ≤ (x0.size : Int) then ((rollbookref01_Take.f k x0 x8 8).bind fun bt228 => ((rollbookref01_Take.f k x0 (wrap64 (x8 + 8)) 4).bind fun bt230 => (if bt228.1 > 1099511627776 then (some (0, ([] : List (S28)), 4)) else (if x7.length < 8796093022208 then (rollbookref08_Decode.l0 k x0 x5 (x7 ++ [(⟨wrap64 (bt228.1), wrap64 (bt230.1)⟩ : S28)]) (wrap64 (x8 + 12))) else (none))))) else ((rollbookref08_Encode.f k (wrap64 (x5)) x7).bind fun bt226 => (if bt226.2 = 0 then (if bt226.1.toList = x0.toList then (some (wrap64 (x5), x7, 0)) else (some (0, ([] : List (S28)), 4))) else (some (0, ([] : List (S28)), 4))))
end
def rollbookref08_Decode.f (k : Nat) (a0 : ByteArray) : Option (Int × (List (S28)) × Int) := (rollbookref01_Take.f k a0 0 4).bind fun bt221 => (if bt221.2 = 0 then (rollbookref08_Decode.j0 k a0 bt221.1 (decide ((a0.size : Int) > 486))) else (rollbookref08_Decode.j0 k a0 bt221.1 true))
theorem rollbookref08_Decode.mono_l : ∀ k, (∀ y0 y1 y2, LeO (rollbookref08_Decode.j0 k y0 y1 y2) (rollbookref08_Decode.j0 (k + 1) y0 y1 y2)) ∧ (∀ y0 y1 y2 y3, LeO (rollbookref08_Decode.l0 k y0 y1 y2 y3) (rollbookref08_Decode.l0 (k + 1) y0 y1 y2 y3))
  | 0 => ⟨fun _ _ _ r h => by simp [rollbookref08_Decode.j0] at h, fun _ _ _ _ r h => by simp [rollbookref08_Decode.l0] at h⟩
  | k + 1 => by
    obtain ⟨ih0, ih1⟩ := rollbookref08_Decode.mono_l k
    refine ⟨?_, ?_⟩
    · intro y0 y1 y2
      unfold rollbookref08_Decode.j0
      repeat' first
      | (with_reducible exact ih0 _ _ _)
      | (with_reducible exact ih1 _ _ _ _)
      | (with_reducible exact rollbookref01_Take.mono _ _ _ _)
      | (with_reducible exact rollbookref08_Encode.mono _ _ _)
      | (with_reducible exact LeO.refl _)
      | (with_reducible exact LeO.none _)
      | (with_reducible refine LeO.ite ?_ ?_)
      | (with_reducible refine LeO.bind ?_ (fun _ => ?_))
      | exact ih0 _ _ _
      | exact ih1 _ _ _ _
      | exact rollbookref01_Take.mono _ _ _ _
      | exact rollbookref08_Encode.mono _ _ _
      | exact LeO.none _
      | refine LeO.ite ?_ ?_
      | refine LeO.bind ?_ (fun _ => ?_)
    · intro y0 y1 y2 y3
      unfold rollbookref08_Decode.l0
      repeat' first
      | (with_reducible exact ih0 _ _ _)
      | (with_reducible exact ih1 _ _ _ _)
      | (with_reducible exact rollbookref01_Take.mono _ _ _ _)
      | (with_reducible exact rollbookref08_Encode.mono _ _ _)
      | (with_reducible exact LeO.refl _)
      | (with_reducible exact LeO.none _)
      | (with_reducible refine LeO.ite ?_ ?_)
      | (with_reducible refine LeO.bind ?_ (fun _ => ?_))
      | exact ih0 _ _ _
      | exact ih1 _ _ _ _
      | exact rollbookref01_Take.mono _ _ _ _
      | exact rollbookref08_Encode.mono _ _ _
      | exact LeO.none _
      | refine LeO.ite ?_ ?_
      | refine LeO.bind ?_ (fun _ => ?_)
theorem rollbookref08_Decode.mono : ∀ a0 k, LeO (rollbookref08_Decode.f k a0) (rollbookref08_Decode.f (k + 1) a0) := by
  intro a0 k
  obtain ⟨ih0, ih1⟩ := rollbookref08_Decode.mono_l k
  unfold rollbookref08_Decode.f
  repeat' first
      | (with_reducible exact ih0 _ _ _)
      | (with_reducible exact ih1 _ _ _ _)
      | (with_reducible exact rollbookref01_Take.mono _ _ _ _)
      | (with_reducible exact rollbookref08_Encode.mono _ _ _)
      | (with_reducible exact LeO.refl _)
      | (with_reducible exact LeO.none _)
      | (with_reducible refine LeO.ite ?_ ?_)
      | (with_reducible refine LeO.bind ?_ (fun _ => ?_))
      | exact ih0 _ _ _
      | exact ih1 _ _ _ _
      | exact rollbookref01_Take.mono _ _ _ _
      | exact rollbookref08_Encode.mono _ _ _
      | exact LeO.none _
      | refine LeO.ite ?_ ?_
      | refine LeO.bind ?_ (fun _ => ?_)
set_option maxHeartbeats 8000000 in
set_option maxRecDepth 100000 in
theorem rollbookref08_Decode.calls (k : Nat) (a0 : ByteArray) (r1 : Int) (r2 : List (S28)) (r3 : Int) (w : World) (h : rollbookref08_Decode.f k a0 = some (r1, r2, r3)) :
    Calls Try.prog 25 #[.string a0] w fun e w' => ∃ v1_ : Value, e = .returned (.tuple #[.int .i64 r1, v1_, .int .i64 r3]) ∧ Kd.R k28 28 w' w.heap.size (fun _ => True) v1_ r2 ∧ Below w.heap.size w w' := by
  have hu28 := Try.underlying28
  have HB := Aside0.mk (Below.refl w.heap.size w)
  have H : ((rollbookref01_Take.f k a0 0 4).bind fun bt221 => (if bt221.2 = 0 then (rollbookref08_Decode.j0 k a0 bt221.1 (decide ((a0.size : Int) > 486))) else (rollbookref08_Decode.j0 k a0 bt221.1 true))) = some (r1, r2, r3) := h
  clear h
  replace H := Option.bind_eq_some_iff.mp H
  obtain ⟨⟨t221, t222⟩, A20, H⟩ := H
  replace H : (if t222 = 0 then (rollbookref08_Decode.j0 k a0 t221 (decide ((a0.size : Int) > 486))) else (rollbookref08_Decode.j0 k a0 t221 true)) = some (r1, r2, r3) := H
  have A2 := Aside0.mk A20
  clear A20
  have HC3 := Aside0.mk H
  clear H
  go_enter Try.func25, Try.ntmps25
  go_upto_region 2 with (first | ((with_reducible refine gate_callee (f := 37) rfl ?_); refine goesL_ (some 17) rfl rfl Try.func37 (by kernel_rfl) rfl #[.string a0, .int .i64 0, .int .i64 4] rfl (by (try simp only [List.map_toArray, List.map_cons, List.map_nil]); first | done | rfl | (simp only [List.length_drop, List.length_take]; rfl)) ?_; (with_reducible refine (rollbookref01_Take.calls k a0 0 4 t221 t222 _ A2.out).mono ?_); rintro e w' ⟨rfl, ⟨nd, rfl⟩⟩; refine ⟨_, rfl, ?_⟩))
  (try simp only [Act.put, List.setIfInBounds_toArray, List.set_cons_zero, List.set_cons_succ])
  go_cut [26] (fun v26 wc => ∃ (kq : Nat) (x26_2 : Bool), v26 = .bool x26_2 ∧ Aside0 (rollbookref08_Decode.j0 kq a0 t221 x26_2 = some (r1, r2, r3)) ∧ Aside0 (kq ≤ k) ∧ Aside0 (Below w.heap.size w wc))
  case first =>
    have H := HC3.out
    clear HC3
    by_cases c4 : t222 = 0
    · rw [if_pos c4] at H
      have c4b0 : (t222 == 0) = true := beq_iff_eq.mpr c4
      have c4b1 : (t222 != 0) = false := bne_eq_false_iff_eq.mpr c4
      clear c4
      (first | rw [c4b0] | (simp only [i64_w, i32_w]; rw [c4b0]) | skip)
      have H' := Aside0.mk H
      clear H
      go_wp2
      go_meet
      case rel => exact ⟨_, (decide ((a0.size : Int) > 486)), (by first | rfl | (simp; done) | (simp [*]; done)), H', ⟨by first | omega | exact Nat.le_refl _⟩, ⟨by repeat (first | (with_reducible first | exact HB.out | apply below_alloc | apply pw_below_drewN | apply below_drew1) | exact HB.out)⟩⟩
    · rw [if_neg c4] at H
      have c4b0 : (t222 == 0) = false := beq_eq_false_iff_ne.mpr c4
      have c4b1 : (t222 != 0) = true := bne_iff_ne.mpr c4
      (first | rw [c4b0] | (simp only [i64_w, i32_w]; rw [c4b0]) | skip)
      have H' := Aside0.mk H
      clear H
      go_wp2
      go_meet
      case rel => exact ⟨_, (true), (by first | rfl | (simp; done) | (simp [*]; done)), H', ⟨by first | omega | exact Nat.le_refl _⟩, ⟨by repeat (first | (with_reducible first | exact HB.out | apply below_alloc | apply pw_below_drewN | apply below_drew1) | exact HB.out)⟩⟩
  case rest =>
    clear HC3
    try clear c2
    try clear p2
    try clear c3
    try clear c4
    try clear c4b0
    try clear c4b1
    obtain ⟨kq, x26_2, rfl, HA, HJ2, HB⟩ := hcut
    cases kq with
    | zero => exact absurd HA.out (by simp [rollbookref08_Decode.j0])
    | succ kj2 =>
      have H := HA.out
      clear HA
      simp only [rollbookref08_Decode.j0] at H
      by_cases c5 : x26_2 = true
      · subst c5
        have H1 : (some (0, ([] : List (S28)), 4)) = some (r1, r2, r3) := by rw [if_pos rfl] at H; exact H
        clear H
        have H := H1
        clear H1
        simp only [Option.some.injEq, Prod.mk.injEq] at H
        obtain ⟨rfl, rfl, rfl⟩ := H
        go_wp2
        go_ret3
        exact ⟨_, by first | rfl | (simp [errW_none, errW_some] <;> rfl) | (simp [*, errW_none, errW_some] <;> rfl), by first | exact Kd.R_nil _ _ _ _ _ | exact Kd.N_nil _ _ _ _ _ | exact Kd.V_nil _ _ _ _ _ | exact Kd.Q_nil _ _ _ _ _ | exact Kd.S_nil _ _ _ _ _, by repeat (first | (with_reducible first | exact HB.out | apply below_alloc | apply pw_below_drewN | apply below_drew1) | exact HB.out)⟩
      · replace c5 := Bool.eq_false_iff.mpr c5
        subst c5
        have H1 : (rollbookref08_Decode.l0 kj2 a0 t221 (([] : List (S28))) 6) = some (r1, r2, r3) := by rw [if_neg (show ¬ (false = true) by decide)] at H; exact H
        clear H
        have H := H1
        clear H1
        obtain ⟨y223, hy223⟩ : ∃ y_ : List (S28), y_ = (([] : List (S28))) := ⟨_, rfl⟩
        replace H : (rollbookref08_Decode.l0 kj2 a0 t221 y223 6) = some (r1, r2, r3) := by first | (rw [hy223]; with_reducible exact H) | (have H2_ := (Option.bind_some _ _).symm.trans H; rw [hy223]; with_reducible exact H2_) | (have H2_ := (Option.bind_some _ _).symm.trans H; with_reducible exact H2_) | with_reducible exact H | (rw [hy223]; exact H) | exact H
        have Ny223 := Aside0.mk hy223
        clear hy223
        have H' := Aside0.mk H
        clear H
        go_wp2_with (first | ((with_reducible refine gate_dst (N := 27) rfl ?_); (try (refine gate_guard (by rfl) ?_; dsimp only)); refine Kd.R_lit k28 _ 28 ?hg (N := 27) ?hd (xs := ([] : List (S28))) (inner := []) (ok := fun _ => True) (okp := fun _ => True) ?hr ?hp (fun _ hk => hk) trivial (Below.refl _ _) (Nat.le_refl _) (by simp) ?_; (case hd => rfl); (case hg => rfl); (case hr => first | (go_simp; done) | (go_simp; rfl)); (case hp => exact (Reps.none _ _)); intro v224 w6 ho7 hb hg_ hnew_; clear hg_ hnew_; (first | rw [← Ny223.out] at ho7 | (simp only [Int.reduceToNat] at ho7; rw [← Ny223.out] at ho7)); have n0_ := Aside0.mk (Kd.R_lower ho7 (below_size (by repeat (first | (with_reducible first | exact HB.out | apply below_alloc | apply pw_below_drewN | apply below_drew1) | exact HB.out)))); have n1_ := Aside0.mk (below_step (by repeat (first | (with_reducible first | exact HB.out | apply below_alloc | apply pw_below_drewN | apply below_drew1) | exact HB.out)) hb); clear HB; have HO225 := n0_; have HB := n1_; clear n0_ n1_; clear hb ho7))
        go_loopg [7, 8] kj2 (fun kq v7 v8 w' => ∃ (x7_2 : List (S28)) (x8_2 : Int), v8 = .int .i64 x8_2 ∧ Aside0 (rollbookref08_Decode.l0 kq a0 t221 x7_2 x8_2 = some (r1, r2, r3)) ∧ Aside0 (kq ≤ kj2) ∧ Aside0 (Kd.R k28 28 w' w.heap.size (fun _ => True) v7 x7_2) ∧ Aside0 (Below w.heap.size w w'))
        case atStart => exact ⟨(y223), (6), (by first | rfl | (simp; done) | (simp [*]; done)), H', ⟨Nat.le_refl _⟩, ⟨by (with_reducible repeat (first | apply Kd.R_alloc | apply Kd.R_drewN | apply Kd.R_drew)); exact HO225.out⟩, ⟨by repeat (first | (with_reducible first | exact HB.out | apply below_alloc | apply pw_below_drewN | apply below_drew1) | exact HB.out)⟩⟩
        case round =>
          clear H'
          try clear c2
          try clear p2
          try clear c3
          try clear c4
          try clear c4b0
          try clear c4b1
          try clear c5
          try clear p2
          obtain ⟨x7_2, x8_2, rfl, HA, HK2, HO_7, HB⟩ := hrel
          cases gk with
          | zero => exact absurd HA.out (by simp [rollbookref08_Decode.l0])
          | succ k2 =>
            have H := HA.out
            clear HA
            simp only [rollbookref08_Decode.l0] at H
            by_cases c8 : (wrap64 (x8_2 + 12)) ≤ (a0.size : Int)
            · rw [if_pos c8] at H
              have c8b0 : decide ((wrap64 (x8_2 + 12)) ≤ (a0.size : Int)) = true := decide_eq_true c8
              clear c8
              replace H := Option.bind_eq_some_iff.mp H
              obtain ⟨⟨t228, t229⟩, A90, H⟩ := H
              replace H : ((rollbookref01_Take.f k2 a0 (wrap64 (x8_2 + 8)) 4).bind fun bt230 => (if t228 > 1099511627776 then (some (0, ([] : List (S28)), 4)) else (if x7_2.length < 8796093022208 then (rollbookref08_Decode.l0 k2 a0 t221 (x7_2 ++ [(⟨wrap64 (t228), wrap64 (bt230.1)⟩ : S28)]) (wrap64 (x8_2 + 12))) else (none)))) = some (r1, r2, r3) := H
              have A9 := Aside0.mk A90
              clear A90
              replace H := Option.bind_eq_some_iff.mp H
              obtain ⟨⟨t230, t231⟩, A100, H⟩ := H
              replace H : (if t228 > 1099511627776 then (some (0, ([] : List (S28)), 4)) else (if x7_2.length < 8796093022208 then (rollbookref08_Decode.l0 k2 a0 t221 (x7_2 ++ [(⟨wrap64 (t228), wrap64 (t230)⟩ : S28)]) (wrap64 (x8_2 + 12))) else (none))) = some (r1, r2, r3) := H
              have A10 := Aside0.mk A100
              clear A100
              by_cases c11 : t228 > 1099511627776
              · rw [if_pos c11] at H
                have c11b0 : decide (1099511627776 < t228) = true := decide_eq_true c11
                clear c11
                simp only [Option.some.injEq, Prod.mk.injEq] at H
                obtain ⟨rfl, rfl, rfl⟩ := H
                go_wp2_with (first | ((with_reducible refine gate_callee (f := 37) rfl ?_); refine goesL_ (some 38) rfl rfl Try.func37 (by kernel_rfl) rfl #[.string a0, .int .i64 x8_2, .int .i64 8] rfl (by (try simp only [List.map_toArray, List.map_cons, List.map_nil]); first | done | rfl | (simp only [List.length_drop, List.length_take]; rfl)) ?_; (with_reducible refine (rollbookref01_Take.calls k2 a0 x8_2 8 t228 t229 _ A9.out).mono ?_); rintro e w' ⟨rfl, ⟨nd, rfl⟩⟩; refine ⟨_, rfl, ?_⟩) | ((with_reducible refine gate_callee (f := 37) rfl ?_); refine goesL_ (some 45) rfl rfl Try.func37 (by kernel_rfl) rfl #[.string a0, .int .i64 (wrap64 (x8_2 + 8)), .int .i64 4] rfl (by (try simp only [List.map_toArray, List.map_cons, List.map_nil]); first | done | rfl | (simp only [List.length_drop, List.length_take]; rfl)) ?_; (with_reducible refine (rollbookref01_Take.calls k2 a0 (wrap64 (x8_2 + 8)) 4 t230 t231 _ A10.out).mono ?_); rintro e w' ⟨rfl, ⟨nd, rfl⟩⟩; refine ⟨_, rfl, ?_⟩))
                go_ret3
                exact ⟨_, by first | rfl | (simp [errW_none, errW_some] <;> rfl) | (simp [*, errW_none, errW_some] <;> rfl), by first | exact Kd.R_nil _ _ _ _ _ | exact Kd.N_nil _ _ _ _ _ | exact Kd.V_nil _ _ _ _ _ | exact Kd.Q_nil _ _ _ _ _ | exact Kd.S_nil _ _ _ _ _, by repeat (first | (with_reducible first | exact HB.out | apply below_alloc | apply pw_below_drewN | apply below_drew1) | exact HB.out)⟩
              · rw [if_neg c11] at H
                have c11b0 : decide (1099511627776 < t228) = false := decide_eq_false c11
                clear c11
                by_cases c12 : x7_2.length < 8796093022208
                · rw [if_pos c12] at H
                  have LMc12 := Aside0.mk c12
                  clear c12
                  obtain ⟨y232, hy232⟩ : ∃ y_ : List (S28), y_ = (x7_2 ++ [(⟨wrap64 (t228), wrap64 (t230)⟩ : S28)]) := ⟨_, rfl⟩
                  replace H : (rollbookref08_Decode.l0 k2 a0 t221 y232 (wrap64 (x8_2 + 12))) = some (r1, r2, r3) := by first | (rw [hy232]; with_reducible exact H) | (have H2_ := (Option.bind_some _ _).symm.trans H; rw [hy232]; with_reducible exact H2_) | (have H2_ := (Option.bind_some _ _).symm.trans H; with_reducible exact H2_) | with_reducible exact H | (rw [hy232]; exact H) | exact H
                  have Ny232 := Aside0.mk hy232
                  clear hy232
                  have H' := Aside0.mk H
                  clear H
                  go_wp2_with (first | ((with_reducible refine gate_callee (f := 37) rfl ?_); refine goesL_ (some 38) rfl rfl Try.func37 (by kernel_rfl) rfl #[.string a0, .int .i64 x8_2, .int .i64 8] rfl (by (try simp only [List.map_toArray, List.map_cons, List.map_nil]); first | done | rfl | (simp only [List.length_drop, List.length_take]; rfl)) ?_; (with_reducible refine (rollbookref01_Take.calls k2 a0 x8_2 8 t228 t229 _ A9.out).mono ?_); rintro e w' ⟨rfl, ⟨nd, rfl⟩⟩; refine ⟨_, rfl, ?_⟩) | ((with_reducible refine gate_callee (f := 37) rfl ?_); refine goesL_ (some 45) rfl rfl Try.func37 (by kernel_rfl) rfl #[.string a0, .int .i64 (wrap64 (x8_2 + 8)), .int .i64 4] rfl (by (try simp only [List.map_toArray, List.map_cons, List.map_nil]); first | done | rfl | (simp only [List.length_drop, List.length_take]; rfl)) ?_; (with_reducible refine (rollbookref01_Take.calls k2 a0 (wrap64 (x8_2 + 8)) 4 t230 t231 _ A10.out).mono ?_); rintro e w' ⟨rfl, ⟨nd, rfl⟩⟩; refine ⟨_, rfl, ?_⟩) | ((with_reducible refine gate_builtin (b := .append) (xs := #[.tmp 50, .tmp 56]) rfl ?_); (try (refine gate_guard (by rfl) ?_; dsimp only)); at_builtin; refine Kd.R_append k28 (w0 := w) w.heap.size rfl (.tmp 50) (.tmp 56) 39 28 (.agg #[(.int .i64 0), (.int .i64 0)]) 16 rfl Try.underlying39 info28 rfl (by decide) (by omega) u7 x7_2 (⟨wrap64 (t228), wrap64 (t230)⟩ : S28) [.int .i64 (wrap64 (t228)), .int .i64 (wrap64 (t230))] (fun _ => True) (fun _ => False) rfl rfl ?aP (fun _ hk => hk.elim) ?aF ?aO ?aB ?aS ?aL ?_; (case aP => exact k28_mkM _ _ _ (⟨wrap64 (t228), wrap64 (t230)⟩ : S28)); (case aB => exact (by repeat (first | (with_reducible first | exact HB.out | apply below_alloc | apply pw_below_drewN | apply below_drew1) | exact HB.out))); (case aF => exact (fun _ _ => trivial)); (case aO => exact (by (with_reducible repeat (first | apply Kd.R_alloc | apply Kd.R_drewN | apply Kd.R_drew)); exact HO_7.out)); (case aS => exact (below_size (by repeat (first | (with_reducible first | exact HB.out | apply below_alloc | apply pw_below_drewN | apply below_drew1) | exact HB.out)))); (case aL => have := LMc12.out; omega); intro v233 w13 ho hb hg hat; rw [← Ny232.out] at ho; have n0_ := Aside0.mk (hb); have n1_ := Aside0.mk (ho); clear HB; clear HO_7; have HB := n0_; have HO234 := n1_; clear n0_ n1_; clear ho hb hg hat))
                  go_roundg k2
                  case measure => have := HJ2.out; have := HK2.out; omega
                  case rel => exact ⟨(y232), (wrap64 (x8_2 + 12)), (by first | rfl | (simp; done) | (simp [*]; done)), H', ⟨by have := HJ2.out; have := HK2.out; omega⟩, ⟨by (with_reducible repeat (first | apply Kd.R_alloc | apply Kd.R_drewN | apply Kd.R_drew)); exact HO234.out⟩, ⟨by repeat (first | (with_reducible first | exact HB.out | apply below_alloc | apply pw_below_drewN | apply below_drew1) | exact HB.out)⟩⟩
                · rw [if_neg c12] at H
                  exact absurd H (by simp)
            · rw [if_neg c8] at H
              have c8b0 : decide ((wrap64 (x8_2 + 12)) ≤ (a0.size : Int)) = false := decide_eq_false c8
              clear c8
              replace H := Option.bind_eq_some_iff.mp H
              obtain ⟨⟨t226, t227⟩, A140, H⟩ := H
              replace H : (if t227 = 0 then (if t226.toList = a0.toList then (some (wrap64 (t221), x7_2, 0)) else (some (0, ([] : List (S28)), 4))) else (some (0, ([] : List (S28)), 4))) = some (r1, r2, r3) := H
              have A14 := Aside0.mk A140
              clear A140
              by_cases c15 : t227 = 0
              · rw [if_pos c15] at H
                have c15b0 : (t227 == 0) = true := beq_iff_eq.mpr c15
                have c15b1 : (t227 != 0) = false := bne_eq_false_iff_eq.mpr c15
                clear c15
                by_cases c16 : t226.toList = a0.toList
                · rw [if_pos c16] at H
                  have c16b0 : (t226.toList == a0.toList) = true := beq_iff_eq.mpr c16
                  have c16b1 : (t226.toList != a0.toList) = false := bne_eq_false_iff_eq.mpr c16
                  clear c16
                  simp only [Option.some.injEq, Prod.mk.injEq] at H
                  obtain ⟨rfl, rfl, rfl⟩ := H
                  obtain ⟨Ao17, co17, eo17⟩ := Kd.R_slice HO_7.out
                  subst eo17
                  go_wp2_with (first | ((with_reducible refine gate_callee (f := 27) rfl ?_); refine goesL_ (some 62) rfl rfl Try.func27 (by kernel_rfl) rfl #[.int .i64 (wrap64 (t221)), .slice Ao17 x7_2.length co17] rfl (by (try simp only [List.map_toArray, List.map_cons, List.map_nil]); first | done | rfl | (simp only [List.length_drop, List.length_take]; rfl)) ?_; (with_reducible refine (rollbookref08_Encode.calls k2 (wrap64 (t221)) _ _ x7_2 t226 t227 _ ?side1 ?side2 A14.out).mono ?_); (case side1 => repeat (first | exact (Kd.R_reads' HO_7.out).2.2 | (with_reducible refine Kd.C_alloc ?_ _) | (with_reducible refine Kd.C_drewN ?_ _) | (with_reducible refine Kd.C_drew ?_))); (case side2 => exact (Kd.R_reads' HO_7.out).2.1); rintro e w18 ⟨rfl, hb⟩; refine ⟨_, rfl, ?_⟩; have n0_ := Aside0.mk (Kd.R_below (by (with_reducible repeat (first | apply Kd.R_alloc | apply Kd.R_drewN | apply Kd.R_drew)); exact HO_7.out) hb); have n1_ := Aside0.mk (below_step (by repeat (first | (with_reducible first | exact HB.out | apply below_alloc | apply pw_below_drewN | apply below_drew1) | exact HB.out)) hb); clear HO_7; clear HB; have HO_7 := n0_; have HB := n1_; clear n0_ n1_; (try clear hb); (try clear hb2); (try clear hk); (try clear hi)))
                  go_ret3
                  exact ⟨_, by first | rfl | (simp [errW_none, errW_some] <;> rfl) | (simp [*, errW_none, errW_some] <;> rfl), by (with_reducible repeat (first | apply Kd.R_alloc | apply Kd.R_drewN | apply Kd.R_drew)); exact HO_7.out, by repeat (first | (with_reducible first | exact HB.out | apply below_alloc | apply pw_below_drewN | apply below_drew1) | exact HB.out)⟩
                · rw [if_neg c16] at H
                  have c16b0 : (t226.toList == a0.toList) = false := beq_eq_false_iff_ne.mpr c16
                  have c16b1 : (t226.toList != a0.toList) = true := bne_iff_ne.mpr c16
                  simp only [Option.some.injEq, Prod.mk.injEq] at H
                  obtain ⟨rfl, rfl, rfl⟩ := H
                  obtain ⟨Ao19, co19, eo19⟩ := Kd.R_slice HO_7.out
                  subst eo19
                  go_wp2_with (first | ((with_reducible refine gate_callee (f := 27) rfl ?_); refine goesL_ (some 62) rfl rfl Try.func27 (by kernel_rfl) rfl #[.int .i64 (wrap64 (t221)), .slice Ao19 x7_2.length co19] rfl (by (try simp only [List.map_toArray, List.map_cons, List.map_nil]); first | done | rfl | (simp only [List.length_drop, List.length_take]; rfl)) ?_; (with_reducible refine (rollbookref08_Encode.calls k2 (wrap64 (t221)) _ _ x7_2 t226 t227 _ ?side1 ?side2 A14.out).mono ?_); (case side1 => repeat (first | exact (Kd.R_reads' HO_7.out).2.2 | (with_reducible refine Kd.C_alloc ?_ _) | (with_reducible refine Kd.C_drewN ?_ _) | (with_reducible refine Kd.C_drew ?_))); (case side2 => exact (Kd.R_reads' HO_7.out).2.1); rintro e w20 ⟨rfl, hb⟩; refine ⟨_, rfl, ?_⟩; have n0_ := Aside0.mk (Kd.R_below (by (with_reducible repeat (first | apply Kd.R_alloc | apply Kd.R_drewN | apply Kd.R_drew)); exact HO_7.out) hb); have n1_ := Aside0.mk (below_step (by repeat (first | (with_reducible first | exact HB.out | apply below_alloc | apply pw_below_drewN | apply below_drew1) | exact HB.out)) hb); clear HO_7; clear HB; have HO_7 := n0_; have HB := n1_; clear n0_ n1_; (try clear hb); (try clear hb2); (try clear hk); (try clear hi)))
                  go_ret3
                  exact ⟨_, by first | rfl | (simp [errW_none, errW_some] <;> rfl) | (simp [*, errW_none, errW_some] <;> rfl), by first | exact Kd.R_nil _ _ _ _ _ | exact Kd.N_nil _ _ _ _ _ | exact Kd.V_nil _ _ _ _ _ | exact Kd.Q_nil _ _ _ _ _ | exact Kd.S_nil _ _ _ _ _, by repeat (first | (with_reducible first | exact HB.out | apply below_alloc | apply pw_below_drewN | apply below_drew1) | exact HB.out)⟩
              · rw [if_neg c15] at H
                have c15b0 : (t227 == 0) = false := beq_eq_false_iff_ne.mpr c15
                have c15b1 : (t227 != 0) = true := bne_iff_ne.mpr c15
                simp only [Option.some.injEq, Prod.mk.injEq] at H
                obtain ⟨rfl, rfl, rfl⟩ := H
                obtain ⟨Ao21, co21, eo21⟩ := Kd.R_slice HO_7.out
                subst eo21
                go_wp2_with (first | ((with_reducible refine gate_callee (f := 27) rfl ?_); refine goesL_ (some 62) rfl rfl Try.func27 (by kernel_rfl) rfl #[.int .i64 (wrap64 (t221)), .slice Ao21 x7_2.length co21] rfl (by (try simp only [List.map_toArray, List.map_cons, List.map_nil]); first | done | rfl | (simp only [List.length_drop, List.length_take]; rfl)) ?_; (with_reducible refine (rollbookref08_Encode.calls k2 (wrap64 (t221)) _ _ x7_2 t226 t227 _ ?side1 ?side2 A14.out).mono ?_); (case side1 => repeat (first | exact (Kd.R_reads' HO_7.out).2.2 | (with_reducible refine Kd.C_alloc ?_ _) | (with_reducible refine Kd.C_drewN ?_ _) | (with_reducible refine Kd.C_drew ?_))); (case side2 => exact (Kd.R_reads' HO_7.out).2.1); rintro e w22 ⟨rfl, hb⟩; refine ⟨_, rfl, ?_⟩; have n0_ := Aside0.mk (Kd.R_below (by (with_reducible repeat (first | apply Kd.R_alloc | apply Kd.R_drewN | apply Kd.R_drew)); exact HO_7.out) hb); have n1_ := Aside0.mk (below_step (by repeat (first | (with_reducible first | exact HB.out | apply below_alloc | apply pw_below_drewN | apply below_drew1) | exact HB.out)) hb); clear HO_7; clear HB; have HO_7 := n0_; have HB := n1_; clear n0_ n1_; (try clear hb); (try clear hb2); (try clear hk); (try clear hi)))
                go_ret3
                exact ⟨_, by first | rfl | (simp [errW_none, errW_some] <;> rfl) | (simp [*, errW_none, errW_some] <;> rfl), by first | exact Kd.R_nil _ _ _ _ _ | exact Kd.N_nil _ _ _ _ _ | exact Kd.V_nil _ _ _ _ _ | exact Kd.Q_nil _ _ _ _ _ | exact Kd.S_nil _ _ _ _ _, by repeat (first | (with_reducible first | exact HB.out | apply below_alloc | apply pw_below_drewN | apply below_drew1) | exact HB.out)⟩

end Go.Proofs.Ytcoddeemfdnjpaa.Fn
