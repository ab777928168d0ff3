/- Functions' walks: their lines were printed by the kit's print.py for this claim (several functions in one text). -/
import Derived.Test.YtcoddeemfdnjpaaDoorFnPg
namespace Go.Proofs.YtcoddeemfdnjpaaDoor.Fn
open Go.RowKit Go.Proofs.YtcoddeemfdnjpaaDoorW.PrintWords Go.Proofs.YtcoddeemfdnjpaaDoorW.PrintLast Go.Proofs.YtcoddeemfdnjpaaDoorW.PrintMore
attribute [local go_sem] max2_int min2_int max_two min_two max_three min_three max_four min_four   -- for this text's walks alone
set_option linter.unusedVariables false
set_option linter.unusedSimpArgs false

/-! ### rollbookref04_RightMeta: function 42 -/
def rollbookref04_RightMeta.f (a0_0 : Int) (a0_1 : Int) (a0_2 : Int) (a0_3 : Int) (a0_4 : Int) : Option (Bool) := if a0_0 < 0 then (some false) else (if a0_0 > 1099511627776 then (some false) else (if a0_4 < 2 then (some false) else (if a0_4 > 512 then (some false) else (if a0_3 < 1 then (some false) else (if a0_3 > a0_4 then (some false) else (if a0_1 ≥ 0 then (if a0_1 < a0_3 then (if a0_2 ≥ 0 then (some (decide (a0_2 < a0_3))) else (some false)) else (some false)) else (some false)))))))
set_option maxHeartbeats 8000000 in
set_option maxRecDepth 100000 in
theorem rollbookref04_RightMeta.calls (a0_0 : Int) (a0_1 : Int) (a0_2 : Int) (a0_3 : Int) (a0_4 : Int) (r : Bool) (w : World) (h : rollbookref04_RightMeta.f a0_0 a0_1 a0_2 a0_3 a0_4 = some r) :
    Calls Tryd.prog 42 #[.agg #[.int .i64 a0_0, .int .i64 a0_1, .int .i64 a0_2, .int .i64 a0_3, .int .i64 a0_4]] w fun e w' => e = .returned (.bool r) ∧ Below w.heap.size w w' := by
  have hu46 := Tryd.underlying46
  have HB := Aside0.mk (Below.refl w.heap.size w)
  have H : (if a0_0 < 0 then (some false) else (if a0_0 > 1099511627776 then (some false) else (if a0_4 < 2 then (some false) else (if a0_4 > 512 then (some false) else (if a0_3 < 1 then (some false) else (if a0_3 > a0_4 then (some false) else (if a0_1 ≥ 0 then (if a0_1 < a0_3 then (if a0_2 ≥ 0 then (some (decide (a0_2 < a0_3))) else (some false)) else (some false)) else (some false)))))))) = some r := h
  clear h
  by_cases c2 : a0_0 < 0
  · rw [if_pos c2] at H
    have c2b0 : decide (a0_0 < 0) = true := decide_eq_true c2
    clear c2
    obtain rfl := Option.some.inj H
    go_enter Tryd.func42, Tryd.ntmps42
    go_wp2_with (first | ((with_reducible refine gate_dst (N := 1) rfl ?_); refine box_event ?hg (N := 1) ?hd (cs := #[.int .i64 a0_0, .int .i64 a0_1, .int .i64 a0_2, .int .i64 a0_3, .int .i64 a0_4]) (t := 46) ?hr ?_; (case hd => rfl); (case hg => rfl); (case hr => first | (go_simp; done) | (go_simp; rfl)); intro gb279 hg w3 hbox hb; have n0_ := Aside0.mk (below_step (by repeat (first | (with_reducible first | exact HB.out | apply below_alloc | apply pw_below_drewN | apply below_drew1) | exact HB.out)) hb); have n1_ := Aside0.mk (hbox); have n2_ := Aside0.mk ((by rw [hg]; exact (below_size (by repeat (first | (with_reducible first | exact HB.out | apply below_alloc | apply pw_below_drewN | apply below_drew1) | exact HB.out))) : w.heap.size ≤ gb279)); have n3_ := Aside0.mk ((by rw [hg]; exact (below_size (by repeat (first | (with_reducible first | exact HB.out | apply below_alloc | apply pw_below_drewN | apply below_drew1) | exact HB.out))) : w.heap.size ≤ gb279)); clear HB; have HB := n0_; have BK279 := n1_; have GW279 := n2_; have GE279 := n3_; clear n0_ n1_ n2_ n3_; clear hb hbox hg; have hcz4_0 : w3.cell? ⟨gb279, 0, none⟩ = some (.int .i64 a0_0) := (blk_cell BK279.out 0).trans rfl; have hcz4_1 : w3.cell? ⟨gb279, 1, none⟩ = some (.int .i64 a0_1) := (blk_cell BK279.out 1).trans rfl; have hcz4_2 : w3.cell? ⟨gb279, 2, none⟩ = some (.int .i64 a0_2) := (blk_cell BK279.out 2).trans rfl; have hcz4_3 : w3.cell? ⟨gb279, 3, none⟩ = some (.int .i64 a0_3) := (blk_cell BK279.out 3).trans rfl; have hcz4_4 : w3.cell? ⟨gb279, 4, none⟩ = some (.int .i64 a0_4) := (blk_cell BK279.out 4).trans rfl; have hfz4_0 := blk_frozen BK279.out 0; have hfz4_1 := blk_frozen BK279.out 1; have hfz4_2 := blk_frozen BK279.out 2; have hfz4_3 := blk_frozen BK279.out 3; have hfz4_4 := blk_frozen BK279.out 4))
    go_ret
    exact ⟨by first | rfl | (simp [errW_none, errW_some] <;> rfl) | (simp [*, errW_none, errW_some] <;> rfl), by repeat (first | (with_reducible first | exact HB.out | apply below_alloc | apply pw_below_drewN | apply below_drew1 | refine below_set ?_ GE279.out) | exact HB.out)⟩
  · rw [if_neg c2] at H
    have c2b0 : decide (a0_0 < 0) = false := decide_eq_false c2
    clear c2
    by_cases c5 : a0_0 > 1099511627776
    · rw [if_pos c5] at H
      have c5b0 : decide (1099511627776 < a0_0) = true := decide_eq_true c5
      clear c5
      obtain rfl := Option.some.inj H
      go_enter Tryd.func42, Tryd.ntmps42
      go_wp2_with (first | ((with_reducible refine gate_dst (N := 1) rfl ?_); refine box_event ?hg (N := 1) ?hd (cs := #[.int .i64 a0_0, .int .i64 a0_1, .int .i64 a0_2, .int .i64 a0_3, .int .i64 a0_4]) (t := 46) ?hr ?_; (case hd => rfl); (case hg => rfl); (case hr => first | (go_simp; done) | (go_simp; rfl)); intro gb279 hg w6 hbox hb; have n0_ := Aside0.mk (below_step (by repeat (first | (with_reducible first | exact HB.out | apply below_alloc | apply pw_below_drewN | apply below_drew1) | exact HB.out)) hb); have n1_ := Aside0.mk (hbox); have n2_ := Aside0.mk ((by rw [hg]; exact (below_size (by repeat (first | (with_reducible first | exact HB.out | apply below_alloc | apply pw_below_drewN | apply below_drew1) | exact HB.out))) : w.heap.size ≤ gb279)); have n3_ := Aside0.mk ((by rw [hg]; exact (below_size (by repeat (first | (with_reducible first | exact HB.out | apply below_alloc | apply pw_below_drewN | apply below_drew1) | exact HB.out))) : w.heap.size ≤ gb279)); clear HB; have HB := n0_; have BK279 := n1_; have GW279 := n2_; have GE279 := n3_; clear n0_ n1_ n2_ n3_; clear hb hbox hg; have hcz7_0 : w6.cell? ⟨gb279, 0, none⟩ = some (.int .i64 a0_0) := (blk_cell BK279.out 0).trans rfl; have hcz7_1 : w6.cell? ⟨gb279, 1, none⟩ = some (.int .i64 a0_1) := (blk_cell BK279.out 1).trans rfl; have hcz7_2 : w6.cell? ⟨gb279, 2, none⟩ = some (.int .i64 a0_2) := (blk_cell BK279.out 2).trans rfl; have hcz7_3 : w6.cell? ⟨gb279, 3, none⟩ = some (.int .i64 a0_3) := (blk_cell BK279.out 3).trans rfl; have hcz7_4 : w6.cell? ⟨gb279, 4, none⟩ = some (.int .i64 a0_4) := (blk_cell BK279.out 4).trans rfl; have hfz7_0 := blk_frozen BK279.out 0; have hfz7_1 := blk_frozen BK279.out 1; have hfz7_2 := blk_frozen BK279.out 2; have hfz7_3 := blk_frozen BK279.out 3; have hfz7_4 := blk_frozen BK279.out 4))
      go_ret
      exact ⟨by first | rfl | (simp [errW_none, errW_some] <;> rfl) | (simp [*, errW_none, errW_some] <;> rfl), by repeat (first | (with_reducible first | exact HB.out | apply below_alloc | apply pw_below_drewN | apply below_drew1 | refine below_set ?_ GE279.out) | exact HB.out)⟩
    · rw [if_neg c5] at H
      have c5b0 : decide (1099511627776 < a0_0) = false := decide_eq_false c5
      clear c5
      by_cases c8 : a0_4 < 2
      · rw [if_pos c8] at H
        have c8b0 : decide (a0_4 < 2) = true := decide_eq_true c8
        clear c8
        obtain rfl := Option.some.inj H
        go_enter Tryd.func42, Tryd.ntmps42
        go_wp2_with (first | ((with_reducible refine gate_dst (N := 1) rfl ?_); refine box_event ?hg (N := 1) ?hd (cs := #[.int .i64 a0_0, .int .i64 a0_1, .int .i64 a0_2, .int .i64 a0_3, .int .i64 a0_4]) (t := 46) ?hr ?_; (case hd => rfl); (case hg => rfl); (case hr => first | (go_simp; done) | (go_simp; rfl)); intro gb279 hg w9 hbox hb; have n0_ := Aside0.mk (below_step (by repeat (first | (with_reducible first | exact HB.out | apply below_alloc | apply pw_below_drewN | apply below_drew1) | exact HB.out)) hb); have n1_ := Aside0.mk (hbox); have n2_ := Aside0.mk ((by rw [hg]; exact (below_size (by repeat (first | (with_reducible first | exact HB.out | apply below_alloc | apply pw_below_drewN | apply below_drew1) | exact HB.out))) : w.heap.size ≤ gb279)); have n3_ := Aside0.mk ((by rw [hg]; exact (below_size (by repeat (first | (with_reducible first | exact HB.out | apply below_alloc | apply pw_below_drewN | apply below_drew1) | exact HB.out))) : w.heap.size ≤ gb279)); clear HB; have HB := n0_; have BK279 := n1_; have GW279 := n2_; have GE279 := n3_; clear n0_ n1_ n2_ n3_; clear hb hbox hg; have hcz10_0 : w9.cell? ⟨gb279, 0, none⟩ = some (.int .i64 a0_0) := (blk_cell BK279.out 0).trans rfl; have hcz10_1 : w9.cell? ⟨gb279, 1, none⟩ = some (.int .i64 a0_1) := (blk_cell BK279.out 1).trans rfl; have hcz10_2 : w9.cell? ⟨gb279, 2, none⟩ = some (.int .i64 a0_2) := (blk_cell BK279.out 2).trans rfl; have hcz10_3 : w9.cell? ⟨gb279, 3, none⟩ = some (.int .i64 a0_3) := (blk_cell BK279.out 3).trans rfl; have hcz10_4 : w9.cell? ⟨gb279, 4, none⟩ = some (.int .i64 a0_4) := (blk_cell BK279.out 4).trans rfl; have hfz10_0 := blk_frozen BK279.out 0; have hfz10_1 := blk_frozen BK279.out 1; have hfz10_2 := blk_frozen BK279.out 2; have hfz10_3 := blk_frozen BK279.out 3; have hfz10_4 := blk_frozen BK279.out 4))
        go_ret
        exact ⟨by first | rfl | (simp [errW_none, errW_some] <;> rfl) | (simp [*, errW_none, errW_some] <;> rfl), by repeat (first | (with_reducible first | exact HB.out | apply below_alloc | apply pw_below_drewN | apply below_drew1 | refine below_set ?_ GE279.out) | exact HB.out)⟩
      · rw [if_neg c8] at H
        have c8b0 : decide (a0_4 < 2) = false := decide_eq_false c8
        clear c8
        by_cases c11 : a0_4 > 512
        · rw [if_pos c11] at H
          have c11b0 : decide (512 < a0_4) = true := decide_eq_true c11
          clear c11
          obtain rfl := Option.some.inj H
          go_enter Tryd.func42, Tryd.ntmps42
          go_wp2_with (first | ((with_reducible refine gate_dst (N := 1) rfl ?_); refine box_event ?hg (N := 1) ?hd (cs := #[.int .i64 a0_0, .int .i64 a0_1, .int .i64 a0_2, .int .i64 a0_3, .int .i64 a0_4]) (t := 46) ?hr ?_; (case hd => rfl); (case hg => rfl); (case hr => first | (go_simp; done) | (go_simp; rfl)); intro gb279 hg w12 hbox hb; have n0_ := Aside0.mk (below_step (by repeat (first | (with_reducible first | exact HB.out | apply below_alloc | apply pw_below_drewN | apply below_drew1) | exact HB.out)) hb); have n1_ := Aside0.mk (hbox); have n2_ := Aside0.mk ((by rw [hg]; exact (below_size (by repeat (first | (with_reducible first | exact HB.out | apply below_alloc | apply pw_below_drewN | apply below_drew1) | exact HB.out))) : w.heap.size ≤ gb279)); have n3_ := Aside0.mk ((by rw [hg]; exact (below_size (by repeat (first | (with_reducible first | exact HB.out | apply below_alloc | apply pw_below_drewN | apply below_drew1) | exact HB.out))) : w.heap.size ≤ gb279)); clear HB; have HB := n0_; have BK279 := n1_; have GW279 := n2_; have GE279 := n3_; clear n0_ n1_ n2_ n3_; clear hb hbox hg; have hcz13_0 : w12.cell? ⟨gb279, 0, none⟩ = some (.int .i64 a0_0) := (blk_cell BK279.out 0).trans rfl; have hcz13_1 : w12.cell? ⟨gb279, 1, none⟩ = some (.int .i64 a0_1) := (blk_cell BK279.out 1).trans rfl; have hcz13_2 : w12.cell? ⟨gb279, 2, none⟩ = some (.int .i64 a0_2) := (blk_cell BK279.out 2).trans rfl; have hcz13_3 : w12.cell? ⟨gb279, 3, none⟩ = some (.int .i64 a0_3) := (blk_cell BK279.out 3).trans rfl; have hcz13_4 : w12.cell? ⟨gb279, 4, none⟩ = some (.int .i64 a0_4) := (blk_cell BK279.out 4).trans rfl; have hfz13_0 := blk_frozen BK279.out 0; have hfz13_1 := blk_frozen BK279.out 1; have hfz13_2 := blk_frozen BK279.out 2; have hfz13_3 := blk_frozen BK279.out 3; have hfz13_4 := blk_frozen BK279.out 4))
          go_ret
          exact ⟨by first | rfl | (simp [errW_none, errW_some] <;> rfl) | (simp [*, errW_none, errW_some] <;> rfl), by repeat (first | (with_reducible first | exact HB.out | apply below_alloc | apply pw_below_drewN | apply below_drew1 | refine below_set ?_ GE279.out) | exact HB.out)⟩
        · rw [if_neg c11] at H
          have c11b0 : decide (512 < a0_4) = false := decide_eq_false c11
          clear c11
          by_cases c14 : a0_3 < 1
          · rw [if_pos c14] at H
            have c14b0 : decide (a0_3 < 1) = true := decide_eq_true c14
            clear c14
            obtain rfl := Option.some.inj H
            go_enter Tryd.func42, Tryd.ntmps42
            go_wp2_with (first | ((with_reducible refine gate_dst (N := 1) rfl ?_); refine box_event ?hg (N := 1) ?hd (cs := #[.int .i64 a0_0, .int .i64 a0_1, .int .i64 a0_2, .int .i64 a0_3, .int .i64 a0_4]) (t := 46) ?hr ?_; (case hd => rfl); (case hg => rfl); (case hr => first | (go_simp; done) | (go_simp; rfl)); intro gb279 hg w15 hbox hb; have n0_ := Aside0.mk (below_step (by repeat (first | (with_reducible first | exact HB.out | apply below_alloc | apply pw_below_drewN | apply below_drew1) | exact HB.out)) hb); have n1_ := Aside0.mk (hbox); have n2_ := Aside0.mk ((by rw [hg]; exact (below_size (by repeat (first | (with_reducible first | exact HB.out | apply below_alloc | apply pw_below_drewN | apply below_drew1) | exact HB.out))) : w.heap.size ≤ gb279)); have n3_ := Aside0.mk ((by rw [hg]; exact (below_size (by repeat (first | (with_reducible first | exact HB.out | apply below_alloc | apply pw_below_drewN | apply below_drew1) | exact HB.out))) : w.heap.size ≤ gb279)); clear HB; have HB := n0_; have BK279 := n1_; have GW279 := n2_; have GE279 := n3_; clear n0_ n1_ n2_ n3_; clear hb hbox hg; have hcz16_0 : w15.cell? ⟨gb279, 0, none⟩ = some (.int .i64 a0_0) := (blk_cell BK279.out 0).trans rfl; have hcz16_1 : w15.cell? ⟨gb279, 1, none⟩ = some (.int .i64 a0_1) := (blk_cell BK279.out 1).trans rfl; have hcz16_2 : w15.cell? ⟨gb279, 2, none⟩ = some (.int .i64 a0_2) := (blk_cell BK279.out 2).trans rfl; have hcz16_3 : w15.cell? ⟨gb279, 3, none⟩ = some (.int .i64 a0_3) := (blk_cell BK279.out 3).trans rfl; have hcz16_4 : w15.cell? ⟨gb279, 4, none⟩ = some (.int .i64 a0_4) := (blk_cell BK279.out 4).trans rfl; have hfz16_0 := blk_frozen BK279.out 0; have hfz16_1 := blk_frozen BK279.out 1; have hfz16_2 := blk_frozen BK279.out 2; have hfz16_3 := blk_frozen BK279.out 3; have hfz16_4 := blk_frozen BK279.out 4))
            go_ret
            exact ⟨by first | rfl | (simp [errW_none, errW_some] <;> rfl) | (simp [*, errW_none, errW_some] <;> rfl), by repeat (first | (with_reducible first | exact HB.out | apply below_alloc | apply pw_below_drewN | apply below_drew1 | refine below_set ?_ GE279.out) | exact HB.out)⟩
          · rw [if_neg c14] at H
            have c14b0 : decide (a0_3 < 1) = false := decide_eq_false c14
            clear c14
            by_cases c17 : a0_3 > a0_4
            · rw [if_pos c17] at H
              have c17b0 : decide (a0_4 < a0_3) = true := decide_eq_true c17
              clear c17
              obtain rfl := Option.some.inj H
              go_enter Tryd.func42, Tryd.ntmps42
              go_wp2_with (first | ((with_reducible refine gate_dst (N := 1) rfl ?_); refine box_event ?hg (N := 1) ?hd (cs := #[.int .i64 a0_0, .int .i64 a0_1, .int .i64 a0_2, .int .i64 a0_3, .int .i64 a0_4]) (t := 46) ?hr ?_; (case hd => rfl); (case hg => rfl); (case hr => first | (go_simp; done) | (go_simp; rfl)); intro gb279 hg w18 hbox hb; have n0_ := Aside0.mk (below_step (by repeat (first | (with_reducible first | exact HB.out | apply below_alloc | apply pw_below_drewN | apply below_drew1) | exact HB.out)) hb); have n1_ := Aside0.mk (hbox); have n2_ := Aside0.mk ((by rw [hg]; exact (below_size (by repeat (first | (with_reducible first | exact HB.out | apply below_alloc | apply pw_below_drewN | apply below_drew1) | exact HB.out))) : w.heap.size ≤ gb279)); have n3_ := Aside0.mk ((by rw [hg]; exact (below_size (by repeat (first | (with_reducible first | exact HB.out | apply below_alloc | apply pw_below_drewN | apply below_drew1) | exact HB.out))) : w.heap.size ≤ gb279)); clear HB; have HB := n0_; have BK279 := n1_; have GW279 := n2_; have GE279 := n3_; clear n0_ n1_ n2_ n3_; clear hb hbox hg; have hcz19_0 : w18.cell? ⟨gb279, 0, none⟩ = some (.int .i64 a0_0) := (blk_cell BK279.out 0).trans rfl; have hcz19_1 : w18.cell? ⟨gb279, 1, none⟩ = some (.int .i64 a0_1) := (blk_cell BK279.out 1).trans rfl; have hcz19_2 : w18.cell? ⟨gb279, 2, none⟩ = some (.int .i64 a0_2) := (blk_cell BK279.out 2).trans rfl; have hcz19_3 : w18.cell? ⟨gb279, 3, none⟩ = some (.int .i64 a0_3) := (blk_cell BK279.out 3).trans rfl; have hcz19_4 : w18.cell? ⟨gb279, 4, none⟩ = some (.int .i64 a0_4) := (blk_cell BK279.out 4).trans rfl; have hfz19_0 := blk_frozen BK279.out 0; have hfz19_1 := blk_frozen BK279.out 1; have hfz19_2 := blk_frozen BK279.out 2; have hfz19_3 := blk_frozen BK279.out 3; have hfz19_4 := blk_frozen BK279.out 4))
              go_ret
              exact ⟨by first | rfl | (simp [errW_none, errW_some] <;> rfl) | (simp [*, errW_none, errW_some] <;> rfl), by repeat (first | (with_reducible first | exact HB.out | apply below_alloc | apply pw_below_drewN | apply below_drew1 | refine below_set ?_ GE279.out) | exact HB.out)⟩
            · rw [if_neg c17] at H
              have c17b0 : decide (a0_4 < a0_3) = false := decide_eq_false c17
              clear c17
              by_cases c20 : a0_1 ≥ 0
              · rw [if_pos c20] at H
                have c20b0 : decide (0 ≤ a0_1) = true := decide_eq_true c20
                clear c20
                by_cases c21 : a0_1 < a0_3
                · rw [if_pos c21] at H
                  have c21b0 : decide (a0_1 < a0_3) = true := decide_eq_true c21
                  clear c21
                  by_cases c22 : a0_2 ≥ 0
                  · rw [if_pos c22] at H
                    have c22b0 : decide (0 ≤ a0_2) = true := decide_eq_true c22
                    clear c22
                    obtain rfl := Option.some.inj H
                    go_enter Tryd.func42, Tryd.ntmps42
                    go_wp2_with (first | ((with_reducible refine gate_dst (N := 1) rfl ?_); refine box_event ?hg (N := 1) ?hd (cs := #[.int .i64 a0_0, .int .i64 a0_1, .int .i64 a0_2, .int .i64 a0_3, .int .i64 a0_4]) (t := 46) ?hr ?_; (case hd => rfl); (case hg => rfl); (case hr => first | (go_simp; done) | (go_simp; rfl)); intro gb279 hg w23 hbox hb; have n0_ := Aside0.mk (below_step (by repeat (first | (with_reducible first | exact HB.out | apply below_alloc | apply pw_below_drewN | apply below_drew1) | exact HB.out)) hb); have n1_ := Aside0.mk (hbox); have n2_ := Aside0.mk ((by rw [hg]; exact (below_size (by repeat (first | (with_reducible first | exact HB.out | apply below_alloc | apply pw_below_drewN | apply below_drew1) | exact HB.out))) : w.heap.size ≤ gb279)); have n3_ := Aside0.mk ((by rw [hg]; exact (below_size (by repeat (first | (with_reducible first | exact HB.out | apply below_alloc | apply pw_below_drewN | apply below_drew1) | exact HB.out))) : w.heap.size ≤ gb279)); clear HB; have HB := n0_; have BK279 := n1_; have GW279 := n2_; have GE279 := n3_; clear n0_ n1_ n2_ n3_; clear hb hbox hg; have hcz24_0 : w23.cell? ⟨gb279, 0, none⟩ = some (.int .i64 a0_0) := (blk_cell BK279.out 0).trans rfl; have hcz24_1 : w23.cell? ⟨gb279, 1, none⟩ = some (.int .i64 a0_1) := (blk_cell BK279.out 1).trans rfl; have hcz24_2 : w23.cell? ⟨gb279, 2, none⟩ = some (.int .i64 a0_2) := (blk_cell BK279.out 2).trans rfl; have hcz24_3 : w23.cell? ⟨gb279, 3, none⟩ = some (.int .i64 a0_3) := (blk_cell BK279.out 3).trans rfl; have hcz24_4 : w23.cell? ⟨gb279, 4, none⟩ = some (.int .i64 a0_4) := (blk_cell BK279.out 4).trans rfl; have hfz24_0 := blk_frozen BK279.out 0; have hfz24_1 := blk_frozen BK279.out 1; have hfz24_2 := blk_frozen BK279.out 2; have hfz24_3 := blk_frozen BK279.out 3; have hfz24_4 := blk_frozen BK279.out 4))
                    go_ret
                    exact ⟨by first | rfl | (simp [errW_none, errW_some] <;> rfl) | (simp [*, errW_none, errW_some] <;> rfl), by repeat (first | (with_reducible first | exact HB.out | apply below_alloc | apply pw_below_drewN | apply below_drew1 | refine below_set ?_ GE279.out) | exact HB.out)⟩
                  · rw [if_neg c22] at H
                    have c22b0 : decide (0 ≤ a0_2) = false := decide_eq_false c22
                    clear c22
                    obtain rfl := Option.some.inj H
                    go_enter Tryd.func42, Tryd.ntmps42
                    go_wp2_with (first | ((with_reducible refine gate_dst (N := 1) rfl ?_); refine box_event ?hg (N := 1) ?hd (cs := #[.int .i64 a0_0, .int .i64 a0_1, .int .i64 a0_2, .int .i64 a0_3, .int .i64 a0_4]) (t := 46) ?hr ?_; (case hd => rfl); (case hg => rfl); (case hr => first | (go_simp; done) | (go_simp; rfl)); intro gb279 hg w25 hbox hb; have n0_ := Aside0.mk (below_step (by repeat (first | (with_reducible first | exact HB.out | apply below_alloc | apply pw_below_drewN | apply below_drew1) | exact HB.out)) hb); have n1_ := Aside0.mk (hbox); have n2_ := Aside0.mk ((by rw [hg]; exact (below_size (by repeat (first | (with_reducible first | exact HB.out | apply below_alloc | apply pw_below_drewN | apply below_drew1) | exact HB.out))) : w.heap.size ≤ gb279)); have n3_ := Aside0.mk ((by rw [hg]; exact (below_size (by repeat (first | (with_reducible first | exact HB.out | apply below_alloc | apply pw_below_drewN | apply below_drew1) | exact HB.out))) : w.heap.size ≤ gb279)); clear HB; have HB := n0_; have BK279 := n1_; have GW279 := n2_; have GE279 := n3_; clear n0_ n1_ n2_ n3_; clear hb hbox hg; have hcz26_0 : w25.cell? ⟨gb279, 0, none⟩ = some (.int .i64 a0_0) := (blk_cell BK279.out 0).trans rfl; have hcz26_1 : w25.cell? ⟨gb279, 1, none⟩ = some (.int .i64 a0_1) := (blk_cell BK279.out 1).trans rfl; have hcz26_2 : w25.cell? ⟨gb279, 2, none⟩ = some (.int .i64 a0_2) := (blk_cell BK279.out 2).trans rfl; have hcz26_3 : w25.cell? ⟨gb279, 3, none⟩ = some (.int .i64 a0_3) := (blk_cell BK279.out 3).trans rfl; have hcz26_4 : w25.cell? ⟨gb279, 4, none⟩ = some (.int .i64 a0_4) := (blk_cell BK279.out 4).trans rfl; have hfz26_0 := blk_frozen BK279.out 0; have hfz26_1 := blk_frozen BK279.out 1; have hfz26_2 := blk_frozen BK279.out 2; have hfz26_3 := blk_frozen BK279.out 3; have hfz26_4 := blk_frozen BK279.out 4))
                    go_ret
                    exact ⟨by first | rfl | (simp [errW_none, errW_some] <;> rfl) | (simp [*, errW_none, errW_some] <;> rfl), by repeat (first | (with_reducible first | exact HB.out | apply below_alloc | apply pw_below_drewN | apply below_drew1 | refine below_set ?_ GE279.out) | exact HB.out)⟩
                · rw [if_neg c21] at H
                  have c21b0 : decide (a0_1 < a0_3) = false := decide_eq_false c21
                  clear c21
                  obtain rfl := Option.some.inj H
                  go_enter Tryd.func42, Tryd.ntmps42
                  go_wp2_with (first | ((with_reducible refine gate_dst (N := 1) rfl ?_); refine box_event ?hg (N := 1) ?hd (cs := #[.int .i64 a0_0, .int .i64 a0_1, .int .i64 a0_2, .int .i64 a0_3, .int .i64 a0_4]) (t := 46) ?hr ?_; (case hd => rfl); (case hg => rfl); (case hr => first | (go_simp; done) | (go_simp; rfl)); intro gb279 hg w27 hbox hb; have n0_ := Aside0.mk (below_step (by repeat (first | (with_reducible first | exact HB.out | apply below_alloc | apply pw_below_drewN | apply below_drew1) | exact HB.out)) hb); have n1_ := Aside0.mk (hbox); have n2_ := Aside0.mk ((by rw [hg]; exact (below_size (by repeat (first | (with_reducible first | exact HB.out | apply below_alloc | apply pw_below_drewN | apply below_drew1) | exact HB.out))) : w.heap.size ≤ gb279)); have n3_ := Aside0.mk ((by rw [hg]; exact (below_size (by repeat (first | (with_reducible first | exact HB.out | apply below_alloc | apply pw_below_drewN | apply below_drew1) | exact HB.out))) : w.heap.size ≤ gb279)); clear HB; have HB := n0_; have BK279 := n1_; have GW279 := n2_; have GE279 := n3_; clear n0_ n1_ n2_ n3_; clear hb hbox hg; have hcz28_0 : w27.cell? ⟨gb279, 0, none⟩ = some (.int .i64 a0_0) := (blk_cell BK279.out 0).trans rfl; have hcz28_1 : w27.cell? ⟨gb279, 1, none⟩ = some (.int .i64 a0_1) := (blk_cell BK279.out 1).trans rfl; have hcz28_2 : w27.cell? ⟨gb279, 2, none⟩ = some (.int .i64 a0_2) := (blk_cell BK279.out 2).trans rfl; have hcz28_3 : w27.cell? ⟨gb279, 3, none⟩ = some (.int .i64 a0_3) := (blk_cell BK279.out 3).trans rfl; have hcz28_4 : w27.cell? ⟨gb279, 4, none⟩ = some (.int .i64 a0_4) := (blk_cell BK279.out 4).trans rfl; have hfz28_0 := blk_frozen BK279.out 0; have hfz28_1 := blk_frozen BK279.out 1; have hfz28_2 := blk_frozen BK279.out 2; have hfz28_3 := blk_frozen BK279.out 3; have hfz28_4 := blk_frozen BK279.out 4))
                  go_ret
                  exact ⟨by first | rfl | (simp [errW_none, errW_some] <;> rfl) | (simp [*, errW_none, errW_some] <;> rfl), by repeat (first | (with_reducible first | exact HB.out | apply below_alloc | apply pw_below_drewN | apply below_drew1 | refine below_set ?_ GE279.out) | exact HB.out)⟩
              · rw [if_neg c20] at H
                have c20b0 : decide (0 ≤ a0_1) = false := decide_eq_false c20
                clear c20
                obtain rfl := Option.some.inj H
                go_enter Tryd.func42, Tryd.ntmps42
                go_wp2_with (first | ((with_reducible refine gate_dst (N := 1) rfl ?_); refine box_event ?hg (N := 1) ?hd (cs := #[.int .i64 a0_0, .int .i64 a0_1, .int .i64 a0_2, .int .i64 a0_3, .int .i64 a0_4]) (t := 46) ?hr ?_; (case hd => rfl); (case hg => rfl); (case hr => first | (go_simp; done) | (go_simp; rfl)); intro gb279 hg w29 hbox hb; have n0_ := Aside0.mk (below_step (by repeat (first | (with_reducible first | exact HB.out | apply below_alloc | apply pw_below_drewN | apply below_drew1) | exact HB.out)) hb); have n1_ := Aside0.mk (hbox); have n2_ := Aside0.mk ((by rw [hg]; exact (below_size (by repeat (first | (with_reducible first | exact HB.out | apply below_alloc | apply pw_below_drewN | apply below_drew1) | exact HB.out))) : w.heap.size ≤ gb279)); have n3_ := Aside0.mk ((by rw [hg]; exact (below_size (by repeat (first | (with_reducible first | exact HB.out | apply below_alloc | apply pw_below_drewN | apply below_drew1) | exact HB.out))) : w.heap.size ≤ gb279)); clear HB; have HB := n0_; have BK279 := n1_; have GW279 := n2_; have GE279 := n3_; clear n0_ n1_ n2_ n3_; clear hb hbox hg; have hcz30_0 : w29.cell? ⟨gb279, 0, none⟩ = some (.int .i64 a0_0) := (blk_cell BK279.out 0).trans rfl; have hcz30_1 : w29.cell? ⟨gb279, 1, none⟩ = some (.int .i64 a0_1) := (blk_cell BK279.out 1).trans rfl; have hcz30_2 : w29.cell? ⟨gb279, 2, none⟩ = some (.int .i64 a0_2) := (blk_cell BK279.out 2).trans rfl; have hcz30_3 : w29.cell? ⟨gb279, 3, none⟩ = some (.int .i64 a0_3) := (blk_cell BK279.out 3).trans rfl; have hcz30_4 : w29.cell? ⟨gb279, 4, none⟩ = some (.int .i64 a0_4) := (blk_cell BK279.out 4).trans rfl; have hfz30_0 := blk_frozen BK279.out 0; have hfz30_1 := blk_frozen BK279.out 1; have hfz30_2 := blk_frozen BK279.out 2; have hfz30_3 := blk_frozen BK279.out 3; have hfz30_4 := blk_frozen BK279.out 4))
                go_ret
                exact ⟨by first | rfl | (simp [errW_none, errW_some] <;> rfl) | (simp [*, errW_none, errW_some] <;> rfl), by repeat (first | (with_reducible first | exact HB.out | apply below_alloc | apply pw_below_drewN | apply below_drew1 | refine below_set ?_ GE279.out) | exact HB.out)⟩

end Go.Proofs.YtcoddeemfdnjpaaDoor.Fn
namespace Go.Proofs.YtcoddeemfdnjpaaDoor.Fn
open Go.RowKit Go.Proofs.YtcoddeemfdnjpaaDoorW.PrintWords Go.Proofs.YtcoddeemfdnjpaaDoorW.PrintLast Go.Proofs.YtcoddeemfdnjpaaDoorW.PrintMore
attribute [local go_sem] max2_int min2_int max_two min_two max_three min_three max_four min_four   -- for this text's walks alone
set_option linter.unusedVariables false
set_option linter.unusedSimpArgs false

/-! ### rollbookref04_PackMeta: function 40 -/
def rollbookref04_PackMeta.f (k : Nat) (a0_0 : Int) (a0_1 : Int) (a0_2 : Int) (a0_3 : Int) (a0_4 : Int) : Option (ByteArray × Int) := (rollbookref04_RightMeta.f a0_0 a0_1 a0_2 a0_3 a0_4).bind fun t281 => (if t281 = true then ((rollbookref04_Number.f k a0_0 8).bind fun t282 => (if 8 + t282.size ≤ 9223372036854775807 then ((rollbookref04_Number.f k a0_1 4).bind fun t283 => (if ((⟨#[82, 79, 76, 76, 66, 79, 79, 75]⟩ : ByteArray) ++ t282).size + t283.size ≤ 9223372036854775807 then ((rollbookref04_Number.f k a0_2 4).bind fun t284 => (if (((⟨#[82, 79, 76, 76, 66, 79, 79, 75]⟩ : ByteArray) ++ t282) ++ t283).size + t284.size ≤ 9223372036854775807 then ((rollbookref04_Number.f k a0_3 4).bind fun t285 => (if ((((⟨#[82, 79, 76, 76, 66, 79, 79, 75]⟩ : ByteArray) ++ t282) ++ t283) ++ t284).size + t285.size ≤ 9223372036854775807 then ((rollbookref04_Number.f k a0_4 4).bind fun t286 => (if (((((⟨#[82, 79, 76, 76, 66, 79, 79, 75]⟩ : ByteArray) ++ t282) ++ t283) ++ t284) ++ t285).size + t286.size ≤ 9223372036854775807 then ((rollbookref02_Sum.f k ((((((⟨#[82, 79, 76, 76, 66, 79, 79, 75]⟩ : ByteArray) ++ t282) ++ t283) ++ t284) ++ t285) ++ t286)).bind fun t287 => ((rollbookref04_Number.f k (wrap64 (t287)) 4).bind fun t288 => (if ((((((⟨#[82, 79, 76, 76, 66, 79, 79, 75]⟩ : ByteArray) ++ t282) ++ t283) ++ t284) ++ t285) ++ t286).size + t288.size ≤ 9223372036854775807 then ((rollbookref04_Noughts.f k 92).bind fun t289 => (if (((((((⟨#[82, 79, 76, 76, 66, 79, 79, 75]⟩ : ByteArray) ++ t282) ++ t283) ++ t284) ++ t285) ++ t286) ++ t288).size + t289.size ≤ 9223372036854775807 then (some ((((((((⟨#[82, 79, 76, 76, 66, 79, 79, 75]⟩ : ByteArray) ++ t282) ++ t283) ++ t284) ++ t285) ++ t286) ++ t288) ++ t289, 0)) else (none))) else (none)))) else (none))) else (none))) else (none))) else (none))) else (none))) else (some ((⟨#[]⟩ : ByteArray), 4)))
theorem rollbookref04_PackMeta.mono : ∀ a0 a1 a2 a3 a4 k, LeO (rollbookref04_PackMeta.f k a0 a1 a2 a3 a4) (rollbookref04_PackMeta.f (k + 1) a0 a1 a2 a3 a4) := by
  intro a0 a1 a2 a3 a4 k
  unfold rollbookref04_PackMeta.f
  repeat' first
      | (with_reducible exact rollbookref02_Sum.mono _ _)
      | (with_reducible exact rollbookref04_Noughts.mono _ _)
      | (with_reducible exact rollbookref04_Number.mono _ _ _)
      | (with_reducible exact LeO.refl _)
      | (with_reducible exact LeO.none _)
      | (with_reducible refine LeO.ite ?_ ?_)
      | (with_reducible refine LeO.bind ?_ (fun _ => ?_))
      | exact rollbookref02_Sum.mono _ _
      | exact rollbookref04_Noughts.mono _ _
      | exact rollbookref04_Number.mono _ _ _
      | exact LeO.none _
      | refine LeO.ite ?_ ?_
      | refine LeO.bind ?_ (fun _ => ?_)
def rollbookref04_PackMeta.T3 : Bool × List (List Nat × List Nat) := (true, [([], []), ([0], [0]), ([1], [1]), ([2], [2]), ([], []), ([4], [4]), ([5, 2], [5]), ([3, 6], [3, 6]), ([], []), ([8], [8]), ([9, 6], [9]), ([7, 10], [7, 10]), ([], []), ([12], [12]), ([13, 10], [13]), ([11, 14], [11, 14]), ([], []), ([16], [16]), ([17, 14], [17]), ([15, 18], [15, 18]), ([19, 18, 0, 1, 2, 3, 4, 5, 6, 7, 8, 9, 10, 11, 12, 13, 14, 15, 16, 17, 18, 19], [19])])
def rollbookref04_PackMeta.B3 : List Nat := [0, 1, 3, 7, 0, 16, 55, 127, 0, 256, 887, 2047, 0, 4096, 14199, 32767, 0, 65536, 227191, 524287, 1048575]
theorem rollbookref04_PackMeta.tab3 : rtab .any (opsOf Tryd.f40 3) = rollbookref04_PackMeta.T3 := by kernel_rfl
theorem rollbookref04_PackMeta.bits3 : waitsOk rollbookref04_PackMeta.T3.2 rollbookref04_PackMeta.B3 = true := by kernel_rfl
set_option maxHeartbeats 8000000 in
set_option maxRecDepth 100000 in
theorem rollbookref04_PackMeta.calls (k : Nat) (a0_0 : Int) (a0_1 : Int) (a0_2 : Int) (a0_3 : Int) (a0_4 : Int) (r1 : ByteArray) (r2 : Int) (w : World) (h : rollbookref04_PackMeta.f k a0_0 a0_1 a0_2 a0_3 a0_4 = some (r1, r2)) :
    Calls Tryd.prog 40 #[.agg #[.int .i64 a0_0, .int .i64 a0_1, .int .i64 a0_2, .int .i64 a0_3, .int .i64 a0_4]] w fun e w' => e = .returned (.tuple #[.string r1, .int .i64 r2]) ∧ Below w.heap.size w w' := by
  have hu46 := Tryd.underlying46
  have HB := Aside0.mk (Below.refl w.heap.size w)
  have H : ((rollbookref04_RightMeta.f a0_0 a0_1 a0_2 a0_3 a0_4).bind fun t281 => (if t281 = true then ((rollbookref04_Number.f k a0_0 8).bind fun t282 => (if 8 + t282.size ≤ 9223372036854775807 then ((rollbookref04_Number.f k a0_1 4).bind fun t283 => (if ((⟨#[82, 79, 76, 76, 66, 79, 79, 75]⟩ : ByteArray) ++ t282).size + t283.size ≤ 9223372036854775807 then ((rollbookref04_Number.f k a0_2 4).bind fun t284 => (if (((⟨#[82, 79, 76, 76, 66, 79, 79, 75]⟩ : ByteArray) ++ t282) ++ t283).size + t284.size ≤ 9223372036854775807 then ((rollbookref04_Number.f k a0_3 4).bind fun t285 => (if ((((⟨#[82, 79, 76, 76, 66, 79, 79, 75]⟩ : ByteArray) ++ t282) ++ t283) ++ t284).size + t285.size ≤ 9223372036854775807 then ((rollbookref04_Number.f k a0_4 4).bind fun t286 => (if (((((⟨#[82, 79, 76, 76, 66, 79, 79, 75]⟩ : ByteArray) ++ t282) ++ t283) ++ t284) ++ t285).size + t286.size ≤ 9223372036854775807 then ((rollbookref02_Sum.f k ((((((⟨#[82, 79, 76, 76, 66, 79, 79, 75]⟩ : ByteArray) ++ t282) ++ t283) ++ t284) ++ t285) ++ t286)).bind fun t287 => ((rollbookref04_Number.f k (wrap64 (t287)) 4).bind fun t288 => (if ((((((⟨#[82, 79, 76, 76, 66, 79, 79, 75]⟩ : ByteArray) ++ t282) ++ t283) ++ t284) ++ t285) ++ t286).size + t288.size ≤ 9223372036854775807 then ((rollbookref04_Noughts.f k 92).bind fun t289 => (if (((((((⟨#[82, 79, 76, 76, 66, 79, 79, 75]⟩ : ByteArray) ++ t282) ++ t283) ++ t284) ++ t285) ++ t286) ++ t288).size + t289.size ≤ 9223372036854775807 then (some ((((((((⟨#[82, 79, 76, 76, 66, 79, 79, 75]⟩ : ByteArray) ++ t282) ++ t283) ++ t284) ++ t285) ++ t286) ++ t288) ++ t289, 0)) else (none))) else (none)))) else (none))) else (none))) else (none))) else (none))) else (none))) else (some ((⟨#[]⟩ : ByteArray), 4)))) = some (r1, r2) := h
  clear h
  replace H := Option.bind_eq_some_iff.mp H
  obtain ⟨t281, A20, H⟩ := H
  replace H : (if t281 = true then ((rollbookref04_Number.f k a0_0 8).bind fun t282 => (if 8 + t282.size ≤ 9223372036854775807 then ((rollbookref04_Number.f k a0_1 4).bind fun t283 => (if ((⟨#[82, 79, 76, 76, 66, 79, 79, 75]⟩ : ByteArray) ++ t282).size + t283.size ≤ 9223372036854775807 then ((rollbookref04_Number.f k a0_2 4).bind fun t284 => (if (((⟨#[82, 79, 76, 76, 66, 79, 79, 75]⟩ : ByteArray) ++ t282) ++ t283).size + t284.size ≤ 9223372036854775807 then ((rollbookref04_Number.f k a0_3 4).bind fun t285 => (if ((((⟨#[82, 79, 76, 76, 66, 79, 79, 75]⟩ : ByteArray) ++ t282) ++ t283) ++ t284).size + t285.size ≤ 9223372036854775807 then ((rollbookref04_Number.f k a0_4 4).bind fun t286 => (if (((((⟨#[82, 79, 76, 76, 66, 79, 79, 75]⟩ : ByteArray) ++ t282) ++ t283) ++ t284) ++ t285).size + t286.size ≤ 9223372036854775807 then ((rollbookref02_Sum.f k ((((((⟨#[82, 79, 76, 76, 66, 79, 79, 75]⟩ : ByteArray) ++ t282) ++ t283) ++ t284) ++ t285) ++ t286)).bind fun t287 => ((rollbookref04_Number.f k (wrap64 (t287)) 4).bind fun t288 => (if ((((((⟨#[82, 79, 76, 76, 66, 79, 79, 75]⟩ : ByteArray) ++ t282) ++ t283) ++ t284) ++ t285) ++ t286).size + t288.size ≤ 9223372036854775807 then ((rollbookref04_Noughts.f k 92).bind fun t289 => (if (((((((⟨#[82, 79, 76, 76, 66, 79, 79, 75]⟩ : ByteArray) ++ t282) ++ t283) ++ t284) ++ t285) ++ t286) ++ t288).size + t289.size ≤ 9223372036854775807 then (some ((((((((⟨#[82, 79, 76, 76, 66, 79, 79, 75]⟩ : ByteArray) ++ t282) ++ t283) ++ t284) ++ t285) ++ t286) ++ t288) ++ t289, 0)) else (none))) else (none)))) else (none))) else (none))) else (none))) else (none))) else (none))) else (some ((⟨#[]⟩ : ByteArray), 4))) = some (r1, r2) := H
  have A2 := Aside0.mk A20
  clear A20
  by_cases c3 : t281 = true
  · subst c3
    have H1 : ((rollbookref04_Number.f k a0_0 8).bind fun t282 => (if 8 + t282.size ≤ 9223372036854775807 then ((rollbookref04_Number.f k a0_1 4).bind fun t283 => (if ((⟨#[82, 79, 76, 76, 66, 79, 79, 75]⟩ : ByteArray) ++ t282).size + t283.size ≤ 9223372036854775807 then ((rollbookref04_Number.f k a0_2 4).bind fun t284 => (if (((⟨#[82, 79, 76, 76, 66, 79, 79, 75]⟩ : ByteArray) ++ t282) ++ t283).size + t284.size ≤ 9223372036854775807 then ((rollbookref04_Number.f k a0_3 4).bind fun t285 => (if ((((⟨#[82, 79, 76, 76, 66, 79, 79, 75]⟩ : ByteArray) ++ t282) ++ t283) ++ t284).size + t285.size ≤ 9223372036854775807 then ((rollbookref04_Number.f k a0_4 4).bind fun t286 => (if (((((⟨#[82, 79, 76, 76, 66, 79, 79, 75]⟩ : ByteArray) ++ t282) ++ t283) ++ t284) ++ t285).size + t286.size ≤ 9223372036854775807 then ((rollbookref02_Sum.f k ((((((⟨#[82, 79, 76, 76, 66, 79, 79, 75]⟩ : ByteArray) ++ t282) ++ t283) ++ t284) ++ t285) ++ t286)).bind fun t287 => ((rollbookref04_Number.f k (wrap64 (t287)) 4).bind fun t288 => (if ((((((⟨#[82, 79, 76, 76, 66, 79, 79, 75]⟩ : ByteArray) ++ t282) ++ t283) ++ t284) ++ t285) ++ t286).size + t288.size ≤ 9223372036854775807 then ((rollbookref04_Noughts.f k 92).bind fun t289 => (if (((((((⟨#[82, 79, 76, 76, 66, 79, 79, 75]⟩ : ByteArray) ++ t282) ++ t283) ++ t284) ++ t285) ++ t286) ++ t288).size + t289.size ≤ 9223372036854775807 then (some ((((((((⟨#[82, 79, 76, 76, 66, 79, 79, 75]⟩ : ByteArray) ++ t282) ++ t283) ++ t284) ++ t285) ++ t286) ++ t288) ++ t289, 0)) else (none))) else (none)))) else (none))) else (none))) else (none))) else (none))) else (none))) = some (r1, r2) := by rw [if_pos rfl] at H; exact H
    clear H
    have H := H1
    clear H1
    replace H := Option.bind_eq_some_iff.mp H
    obtain ⟨t282, A40, H⟩ := H
    replace H : (if 8 + t282.size ≤ 9223372036854775807 then ((rollbookref04_Number.f k a0_1 4).bind fun t283 => (if ((⟨#[82, 79, 76, 76, 66, 79, 79, 75]⟩ : ByteArray) ++ t282).size + t283.size ≤ 9223372036854775807 then ((rollbookref04_Number.f k a0_2 4).bind fun t284 => (if (((⟨#[82, 79, 76, 76, 66, 79, 79, 75]⟩ : ByteArray) ++ t282) ++ t283).size + t284.size ≤ 9223372036854775807 then ((rollbookref04_Number.f k a0_3 4).bind fun t285 => (if ((((⟨#[82, 79, 76, 76, 66, 79, 79, 75]⟩ : ByteArray) ++ t282) ++ t283) ++ t284).size + t285.size ≤ 9223372036854775807 then ((rollbookref04_Number.f k a0_4 4).bind fun t286 => (if (((((⟨#[82, 79, 76, 76, 66, 79, 79, 75]⟩ : ByteArray) ++ t282) ++ t283) ++ t284) ++ t285).size + t286.size ≤ 9223372036854775807 then ((rollbookref02_Sum.f k ((((((⟨#[82, 79, 76, 76, 66, 79, 79, 75]⟩ : ByteArray) ++ t282) ++ t283) ++ t284) ++ t285) ++ t286)).bind fun t287 => ((rollbookref04_Number.f k (wrap64 (t287)) 4).bind fun t288 => (if ((((((⟨#[82, 79, 76, 76, 66, 79, 79, 75]⟩ : ByteArray) ++ t282) ++ t283) ++ t284) ++ t285) ++ t286).size + t288.size ≤ 9223372036854775807 then ((rollbookref04_Noughts.f k 92).bind fun t289 => (if (((((((⟨#[82, 79, 76, 76, 66, 79, 79, 75]⟩ : ByteArray) ++ t282) ++ t283) ++ t284) ++ t285) ++ t286) ++ t288).size + t289.size ≤ 9223372036854775807 then (some ((((((((⟨#[82, 79, 76, 76, 66, 79, 79, 75]⟩ : ByteArray) ++ t282) ++ t283) ++ t284) ++ t285) ++ t286) ++ t288) ++ t289, 0)) else (none))) else (none)))) else (none))) else (none))) else (none))) else (none))) else (none)) = some (r1, r2) := H
    have A4 := Aside0.mk A40
    clear A40
    by_cases c5 : 8 + t282.size ≤ 9223372036854775807
    · rw [if_pos c5] at H
      have c5b0 := eq_true c5
      have c5b1 : decide (8 + t282.size ≤ 9223372036854775807) = true := decide_eq_true c5
      try have c5b2 : (9223372036854775807 < 8 + t282.size) = False := eq_false (Nat.not_lt.2 c5)
      replace H := Option.bind_eq_some_iff.mp H
      obtain ⟨t283, A60, H⟩ := H
      replace H : (if ((⟨#[82, 79, 76, 76, 66, 79, 79, 75]⟩ : ByteArray) ++ t282).size + t283.size ≤ 9223372036854775807 then ((rollbookref04_Number.f k a0_2 4).bind fun t284 => (if (((⟨#[82, 79, 76, 76, 66, 79, 79, 75]⟩ : ByteArray) ++ t282) ++ t283).size + t284.size ≤ 9223372036854775807 then ((rollbookref04_Number.f k a0_3 4).bind fun t285 => (if ((((⟨#[82, 79, 76, 76, 66, 79, 79, 75]⟩ : ByteArray) ++ t282) ++ t283) ++ t284).size + t285.size ≤ 9223372036854775807 then ((rollbookref04_Number.f k a0_4 4).bind fun t286 => (if (((((⟨#[82, 79, 76, 76, 66, 79, 79, 75]⟩ : ByteArray) ++ t282) ++ t283) ++ t284) ++ t285).size + t286.size ≤ 9223372036854775807 then ((rollbookref02_Sum.f k ((((((⟨#[82, 79, 76, 76, 66, 79, 79, 75]⟩ : ByteArray) ++ t282) ++ t283) ++ t284) ++ t285) ++ t286)).bind fun t287 => ((rollbookref04_Number.f k (wrap64 (t287)) 4).bind fun t288 => (if ((((((⟨#[82, 79, 76, 76, 66, 79, 79, 75]⟩ : ByteArray) ++ t282) ++ t283) ++ t284) ++ t285) ++ t286).size + t288.size ≤ 9223372036854775807 then ((rollbookref04_Noughts.f k 92).bind fun t289 => (if (((((((⟨#[82, 79, 76, 76, 66, 79, 79, 75]⟩ : ByteArray) ++ t282) ++ t283) ++ t284) ++ t285) ++ t286) ++ t288).size + t289.size ≤ 9223372036854775807 then (some ((((((((⟨#[82, 79, 76, 76, 66, 79, 79, 75]⟩ : ByteArray) ++ t282) ++ t283) ++ t284) ++ t285) ++ t286) ++ t288) ++ t289, 0)) else (none))) else (none)))) else (none))) else (none))) else (none))) else (none)) = some (r1, r2) := H
      have A6 := Aside0.mk A60
      clear A60
      by_cases c7 : ((⟨#[82, 79, 76, 76, 66, 79, 79, 75]⟩ : ByteArray) ++ t282).size + t283.size ≤ 9223372036854775807
      · rw [if_pos c7] at H
        have c7b0 := eq_true c7
        have c7b1 : decide (((⟨#[82, 79, 76, 76, 66, 79, 79, 75]⟩ : ByteArray) ++ t282).size + t283.size ≤ 9223372036854775807) = true := decide_eq_true c7
        try have c7b2 : (9223372036854775807 < ((⟨#[82, 79, 76, 76, 66, 79, 79, 75]⟩ : ByteArray) ++ t282).size + t283.size) = False := eq_false (Nat.not_lt.2 c7)
        have nc7b2 := c7b2
        simp only [ByteArray.size_append, mendcat_lit2, mendcat_lit8] at nc7b2
        replace H := Option.bind_eq_some_iff.mp H
        obtain ⟨t284, A80, H⟩ := H
        replace H : (if (((⟨#[82, 79, 76, 76, 66, 79, 79, 75]⟩ : ByteArray) ++ t282) ++ t283).size + t284.size ≤ 9223372036854775807 then ((rollbookref04_Number.f k a0_3 4).bind fun t285 => (if ((((⟨#[82, 79, 76, 76, 66, 79, 79, 75]⟩ : ByteArray) ++ t282) ++ t283) ++ t284).size + t285.size ≤ 9223372036854775807 then ((rollbookref04_Number.f k a0_4 4).bind fun t286 => (if (((((⟨#[82, 79, 76, 76, 66, 79, 79, 75]⟩ : ByteArray) ++ t282) ++ t283) ++ t284) ++ t285).size + t286.size ≤ 9223372036854775807 then ((rollbookref02_Sum.f k ((((((⟨#[82, 79, 76, 76, 66, 79, 79, 75]⟩ : ByteArray) ++ t282) ++ t283) ++ t284) ++ t285) ++ t286)).bind fun t287 => ((rollbookref04_Number.f k (wrap64 (t287)) 4).bind fun t288 => (if ((((((⟨#[82, 79, 76, 76, 66, 79, 79, 75]⟩ : ByteArray) ++ t282) ++ t283) ++ t284) ++ t285) ++ t286).size + t288.size ≤ 9223372036854775807 then ((rollbookref04_Noughts.f k 92).bind fun t289 => (if (((((((⟨#[82, 79, 76, 76, 66, 79, 79, 75]⟩ : ByteArray) ++ t282) ++ t283) ++ t284) ++ t285) ++ t286) ++ t288).size + t289.size ≤ 9223372036854775807 then (some ((((((((⟨#[82, 79, 76, 76, 66, 79, 79, 75]⟩ : ByteArray) ++ t282) ++ t283) ++ t284) ++ t285) ++ t286) ++ t288) ++ t289, 0)) else (none))) else (none)))) else (none))) else (none))) else (none)) = some (r1, r2) := H
        have A8 := Aside0.mk A80
        clear A80
        by_cases c9 : (((⟨#[82, 79, 76, 76, 66, 79, 79, 75]⟩ : ByteArray) ++ t282) ++ t283).size + t284.size ≤ 9223372036854775807
        · rw [if_pos c9] at H
          have c9b0 := eq_true c9
          have c9b1 : decide ((((⟨#[82, 79, 76, 76, 66, 79, 79, 75]⟩ : ByteArray) ++ t282) ++ t283).size + t284.size ≤ 9223372036854775807) = true := decide_eq_true c9
          try have c9b2 : (9223372036854775807 < (((⟨#[82, 79, 76, 76, 66, 79, 79, 75]⟩ : ByteArray) ++ t282) ++ t283).size + t284.size) = False := eq_false (Nat.not_lt.2 c9)
          have nc9b2 := c9b2
          simp only [ByteArray.size_append, mendcat_lit2, mendcat_lit8] at nc9b2
          replace H := Option.bind_eq_some_iff.mp H
          obtain ⟨t285, A100, H⟩ := H
          replace H : (if ((((⟨#[82, 79, 76, 76, 66, 79, 79, 75]⟩ : ByteArray) ++ t282) ++ t283) ++ t284).size + t285.size ≤ 9223372036854775807 then ((rollbookref04_Number.f k a0_4 4).bind fun t286 => (if (((((⟨#[82, 79, 76, 76, 66, 79, 79, 75]⟩ : ByteArray) ++ t282) ++ t283) ++ t284) ++ t285).size + t286.size ≤ 9223372036854775807 then ((rollbookref02_Sum.f k ((((((⟨#[82, 79, 76, 76, 66, 79, 79, 75]⟩ : ByteArray) ++ t282) ++ t283) ++ t284) ++ t285) ++ t286)).bind fun t287 => ((rollbookref04_Number.f k (wrap64 (t287)) 4).bind fun t288 => (if ((((((⟨#[82, 79, 76, 76, 66, 79, 79, 75]⟩ : ByteArray) ++ t282) ++ t283) ++ t284) ++ t285) ++ t286).size + t288.size ≤ 9223372036854775807 then ((rollbookref04_Noughts.f k 92).bind fun t289 => (if (((((((⟨#[82, 79, 76, 76, 66, 79, 79, 75]⟩ : ByteArray) ++ t282) ++ t283) ++ t284) ++ t285) ++ t286) ++ t288).size + t289.size ≤ 9223372036854775807 then (some ((((((((⟨#[82, 79, 76, 76, 66, 79, 79, 75]⟩ : ByteArray) ++ t282) ++ t283) ++ t284) ++ t285) ++ t286) ++ t288) ++ t289, 0)) else (none))) else (none)))) else (none))) else (none)) = some (r1, r2) := H
          have A10 := Aside0.mk A100
          clear A100
          by_cases c11 : ((((⟨#[82, 79, 76, 76, 66, 79, 79, 75]⟩ : ByteArray) ++ t282) ++ t283) ++ t284).size + t285.size ≤ 9223372036854775807
          · rw [if_pos c11] at H
            have c11b0 := eq_true c11
            have c11b1 : decide (((((⟨#[82, 79, 76, 76, 66, 79, 79, 75]⟩ : ByteArray) ++ t282) ++ t283) ++ t284).size + t285.size ≤ 9223372036854775807) = true := decide_eq_true c11
            try have c11b2 : (9223372036854775807 < ((((⟨#[82, 79, 76, 76, 66, 79, 79, 75]⟩ : ByteArray) ++ t282) ++ t283) ++ t284).size + t285.size) = False := eq_false (Nat.not_lt.2 c11)
            have nc11b2 := c11b2
            simp only [ByteArray.size_append, mendcat_lit2, mendcat_lit8] at nc11b2
            replace H := Option.bind_eq_some_iff.mp H
            obtain ⟨t286, A120, H⟩ := H
            replace H : (if (((((⟨#[82, 79, 76, 76, 66, 79, 79, 75]⟩ : ByteArray) ++ t282) ++ t283) ++ t284) ++ t285).size + t286.size ≤ 9223372036854775807 then ((rollbookref02_Sum.f k ((((((⟨#[82, 79, 76, 76, 66, 79, 79, 75]⟩ : ByteArray) ++ t282) ++ t283) ++ t284) ++ t285) ++ t286)).bind fun t287 => ((rollbookref04_Number.f k (wrap64 (t287)) 4).bind fun t288 => (if ((((((⟨#[82, 79, 76, 76, 66, 79, 79, 75]⟩ : ByteArray) ++ t282) ++ t283) ++ t284) ++ t285) ++ t286).size + t288.size ≤ 9223372036854775807 then ((rollbookref04_Noughts.f k 92).bind fun t289 => (if (((((((⟨#[82, 79, 76, 76, 66, 79, 79, 75]⟩ : ByteArray) ++ t282) ++ t283) ++ t284) ++ t285) ++ t286) ++ t288).size + t289.size ≤ 9223372036854775807 then (some ((((((((⟨#[82, 79, 76, 76, 66, 79, 79, 75]⟩ : ByteArray) ++ t282) ++ t283) ++ t284) ++ t285) ++ t286) ++ t288) ++ t289, 0)) else (none))) else (none)))) else (none)) = some (r1, r2) := H
            have A12 := Aside0.mk A120
            clear A120
            by_cases c13 : (((((⟨#[82, 79, 76, 76, 66, 79, 79, 75]⟩ : ByteArray) ++ t282) ++ t283) ++ t284) ++ t285).size + t286.size ≤ 9223372036854775807
            · rw [if_pos c13] at H
              have c13b0 := eq_true c13
              have c13b1 : decide ((((((⟨#[82, 79, 76, 76, 66, 79, 79, 75]⟩ : ByteArray) ++ t282) ++ t283) ++ t284) ++ t285).size + t286.size ≤ 9223372036854775807) = true := decide_eq_true c13
              try have c13b2 : (9223372036854775807 < (((((⟨#[82, 79, 76, 76, 66, 79, 79, 75]⟩ : ByteArray) ++ t282) ++ t283) ++ t284) ++ t285).size + t286.size) = False := eq_false (Nat.not_lt.2 c13)
              have nc13b2 := c13b2
              simp only [ByteArray.size_append, mendcat_lit2, mendcat_lit8] at nc13b2
              replace H := Option.bind_eq_some_iff.mp H
              obtain ⟨t287, A140, H⟩ := H
              replace H : ((rollbookref04_Number.f k (wrap64 (t287)) 4).bind fun t288 => (if ((((((⟨#[82, 79, 76, 76, 66, 79, 79, 75]⟩ : ByteArray) ++ t282) ++ t283) ++ t284) ++ t285) ++ t286).size + t288.size ≤ 9223372036854775807 then ((rollbookref04_Noughts.f k 92).bind fun t289 => (if (((((((⟨#[82, 79, 76, 76, 66, 79, 79, 75]⟩ : ByteArray) ++ t282) ++ t283) ++ t284) ++ t285) ++ t286) ++ t288).size + t289.size ≤ 9223372036854775807 then (some ((((((((⟨#[82, 79, 76, 76, 66, 79, 79, 75]⟩ : ByteArray) ++ t282) ++ t283) ++ t284) ++ t285) ++ t286) ++ t288) ++ t289, 0)) else (none))) else (none))) = some (r1, r2) := H
              have A14 := Aside0.mk A140
              clear A140
              replace H := Option.bind_eq_some_iff.mp H
              obtain ⟨t288, A150, H⟩ := H
              replace H : (if ((((((⟨#[82, 79, 76, 76, 66, 79, 79, 75]⟩ : ByteArray) ++ t282) ++ t283) ++ t284) ++ t285) ++ t286).size + t288.size ≤ 9223372036854775807 then ((rollbookref04_Noughts.f k 92).bind fun t289 => (if (((((((⟨#[82, 79, 76, 76, 66, 79, 79, 75]⟩ : ByteArray) ++ t282) ++ t283) ++ t284) ++ t285) ++ t286) ++ t288).size + t289.size ≤ 9223372036854775807 then (some ((((((((⟨#[82, 79, 76, 76, 66, 79, 79, 75]⟩ : ByteArray) ++ t282) ++ t283) ++ t284) ++ t285) ++ t286) ++ t288) ++ t289, 0)) else (none))) else (none)) = some (r1, r2) := H
              have A15 := Aside0.mk A150
              clear A150
              by_cases c16 : ((((((⟨#[82, 79, 76, 76, 66, 79, 79, 75]⟩ : ByteArray) ++ t282) ++ t283) ++ t284) ++ t285) ++ t286).size + t288.size ≤ 9223372036854775807
              · rw [if_pos c16] at H
                have c16b0 := eq_true c16
                have c16b1 : decide (((((((⟨#[82, 79, 76, 76, 66, 79, 79, 75]⟩ : ByteArray) ++ t282) ++ t283) ++ t284) ++ t285) ++ t286).size + t288.size ≤ 9223372036854775807) = true := decide_eq_true c16
                try have c16b2 : (9223372036854775807 < ((((((⟨#[82, 79, 76, 76, 66, 79, 79, 75]⟩ : ByteArray) ++ t282) ++ t283) ++ t284) ++ t285) ++ t286).size + t288.size) = False := eq_false (Nat.not_lt.2 c16)
                have nc16b2 := c16b2
                simp only [ByteArray.size_append, mendcat_lit2, mendcat_lit8] at nc16b2
                replace H := Option.bind_eq_some_iff.mp H
                obtain ⟨t289, A170, H⟩ := H
                replace H : (if (((((((⟨#[82, 79, 76, 76, 66, 79, 79, 75]⟩ : ByteArray) ++ t282) ++ t283) ++ t284) ++ t285) ++ t286) ++ t288).size + t289.size ≤ 9223372036854775807 then (some ((((((((⟨#[82, 79, 76, 76, 66, 79, 79, 75]⟩ : ByteArray) ++ t282) ++ t283) ++ t284) ++ t285) ++ t286) ++ t288) ++ t289, 0)) else (none)) = some (r1, r2) := H
                have A17 := Aside0.mk A170
                clear A170
                by_cases c18 : (((((((⟨#[82, 79, 76, 76, 66, 79, 79, 75]⟩ : ByteArray) ++ t282) ++ t283) ++ t284) ++ t285) ++ t286) ++ t288).size + t289.size ≤ 9223372036854775807
                · rw [if_pos c18] at H
                  have c18b0 := eq_true c18
                  have c18b1 : decide ((((((((⟨#[82, 79, 76, 76, 66, 79, 79, 75]⟩ : ByteArray) ++ t282) ++ t283) ++ t284) ++ t285) ++ t286) ++ t288).size + t289.size ≤ 9223372036854775807) = true := decide_eq_true c18
                  try have c18b2 : (9223372036854775807 < (((((((⟨#[82, 79, 76, 76, 66, 79, 79, 75]⟩ : ByteArray) ++ t282) ++ t283) ++ t284) ++ t285) ++ t286) ++ t288).size + t289.size) = False := eq_false (Nat.not_lt.2 c18)
                  have nc18b2 := c18b2
                  simp only [ByteArray.size_append, mendcat_lit2, mendcat_lit8] at nc18b2
                  simp only [Option.some.injEq, Prod.mk.injEq] at H
                  obtain ⟨rfl, rfl⟩ := H
                  go_enter Tryd.func40, Tryd.ntmps40
                  try go_wp2_with (first | ((with_reducible refine gate_dst (N := 1) rfl ?_); refine box_event ?hg (N := 1) ?hd (cs := #[.int .i64 a0_0, .int .i64 a0_1, .int .i64 a0_2, .int .i64 a0_3, .int .i64 a0_4]) (t := 46) ?hr ?_; (case hd => rfl); (case hg => rfl); (case hr => first | (go_simp; done) | (go_simp; rfl)); intro gb280 hg w19 hbox hb; have n0_ := Aside0.mk (below_step (by repeat (first | (with_reducible first | exact HB.out | apply below_alloc | apply pw_below_drewN | apply below_drew1) | exact HB.out)) hb); have n1_ := Aside0.mk (hbox); have n2_ := Aside0.mk ((by rw [hg]; exact (below_size (by repeat (first | (with_reducible first | exact HB.out | apply below_alloc | apply pw_below_drewN | apply below_drew1) | exact HB.out))) : w.heap.size ≤ gb280)); have n3_ := Aside0.mk ((by rw [hg]; exact (below_size (by repeat (first | (with_reducible first | exact HB.out | apply below_alloc | apply pw_below_drewN | apply below_drew1) | exact HB.out))) : w.heap.size ≤ gb280)); clear HB; have HB := n0_; have BK280 := n1_; have GW280 := n2_; have GE280 := n3_; clear n0_ n1_ n2_ n3_; clear hb hbox hg; have hcz20_0 : w19.cell? ⟨gb280, 0, none⟩ = some (.int .i64 a0_0) := (blk_cell BK280.out 0).trans rfl; have hcz20_1 : w19.cell? ⟨gb280, 1, none⟩ = some (.int .i64 a0_1) := (blk_cell BK280.out 1).trans rfl; have hcz20_2 : w19.cell? ⟨gb280, 2, none⟩ = some (.int .i64 a0_2) := (blk_cell BK280.out 2).trans rfl; have hcz20_3 : w19.cell? ⟨gb280, 3, none⟩ = some (.int .i64 a0_3) := (blk_cell BK280.out 3).trans rfl; have hcz20_4 : w19.cell? ⟨gb280, 4, none⟩ = some (.int .i64 a0_4) := (blk_cell BK280.out 4).trans rfl; have hfz20_0 := blk_frozen BK280.out 0; have hfz20_1 := blk_frozen BK280.out 1; have hfz20_2 := blk_frozen BK280.out 2; have hfz20_3 := blk_frozen BK280.out 3; have hfz20_4 := blk_frozen BK280.out 4) | ((with_reducible refine gate_callee (f := 42) rfl ?_); refine goesL_ (some 6) rfl rfl Tryd.func42 (by kernel_rfl) rfl #[.agg #[.int .i64 a0_0, .int .i64 a0_1, .int .i64 a0_2, .int .i64 a0_3, .int .i64 a0_4]] rfl (by (try simp only [List.map_toArray, List.map_cons, List.map_nil]); first | done | rfl | (simp only [List.length_drop, List.length_take]; rfl)) ?_; (with_reducible refine (rollbookref04_RightMeta.calls a0_0 a0_1 a0_2 a0_3 a0_4 true _ A2.out).mono ?_); rintro e w21 ⟨rfl, hb⟩; refine ⟨_, rfl, ?_⟩; have n0_ := Aside0.mk (blk_below (g := gb280) (o := .cells #[.int .i64 a0_0, .int .i64 a0_1, .int .i64 a0_2, .int .i64 a0_3, .int .i64 a0_4] 46 (0, 0)) (by (with_reducible repeat (first | refine blk_drewN ?_ _ | refine blk_drew ?_ | refine blk_alloc ?_ _)); exact BK280.out) hb); have n1_ := Aside0.mk (below_step (by repeat (first | (with_reducible first | exact HB.out | apply below_alloc | apply pw_below_drewN | apply below_drew1 | refine below_set ?_ GE280.out) | exact HB.out)) hb); clear BK280; clear HB; have BK280 := n0_; have HB := n1_; clear n0_ n1_; (try clear hb); (try clear hb2); (try clear hk); (try clear hi)))
                  have n0_ := Aside0.mk (blk_drew BK280.out)
                  have n1_ := Aside0.mk (below_drew1 HB.out)
                  clear BK280
                  clear HB
                  have BK280 := n0_
                  have HB := n1_
                  clear n0_ n1_
                  refine start_ (n := 21) (S := fun w' => w'.cell? ⟨gb280, 0, none⟩ = some (.int .i64 a0_0) ∧ w'.cell? ⟨gb280, 1, none⟩ = some (.int .i64 a0_1) ∧ w'.cell? ⟨gb280, 2, none⟩ = some (.int .i64 a0_2) ∧ w'.cell? ⟨gb280, 3, none⟩ = some (.int .i64 a0_3) ∧ w'.cell? ⟨gb280, 4, none⟩ = some (.int .i64 a0_4)) (ds := []) #[false, false, false, false, false, false, false, false, false, false, false, false, false, false, false, false, false, false, false, false, false] (by kernel_rfl) rfl rfl ⟨(blk_cell BK280.out 0).trans rfl, (blk_cell BK280.out 1).trans rfl, (blk_cell BK280.out 2).trans rfl, (blk_cell BK280.out 3).trans rfl, (blk_cell BK280.out 4).trans rfl⟩ (fun hHeld => ?_); refine with_tabW rollbookref04_PackMeta.tab3 rollbookref04_PackMeta.bits3 (fun HT_ HW_ => ?_)
                  generalize w21.drew = w22 at BK280 HB hHeld ⊢
                  refine pure_ (i := 0) (N := some 8) (v := ?_) (a' := ?_) #[true, false, false, false, false, false, false, false, false, false, false, false, false, false, false, false, false, false, false, false, false] rfl rfl (any_of HT_.out (by kernel_rfl)) (fun _ _ _ h => h) (Or.inl ⟨by rfl, ?_⟩) ?_ ?_
                  rotate_left
                  · intro w'
                    go_simp
                    with_reducible rfl
                  rotate_left
                  · simp only [Act.put, List.setIfInBounds_toArray, List.set_cons_zero, List.set_cons_succ, i64_w, i32_w]
                    rfl
                  refine pure_ (i := 4) (N := some 12) (v := ?_) (a' := ?_) #[true, false, false, false, true, false, false, false, false, false, false, false, false, false, false, false, false, false, false, false, false] rfl rfl (any_of HT_.out (by kernel_rfl)) (fun _ _ _ h => h) (Or.inl ⟨by rfl, ?_⟩) ?_ ?_
                  rotate_left
                  · intro w'
                    go_simp
                    with_reducible rfl
                  rotate_left
                  · simp only [Act.put, List.setIfInBounds_toArray, List.set_cons_zero, List.set_cons_succ, i64_w, i32_w]
                    rfl
                  refine pure_ (i := 8) (N := some 16) (v := ?_) (a' := ?_) #[true, false, false, false, true, false, false, false, true, false, false, false, false, false, false, false, false, false, false, false, false] rfl rfl (any_of HT_.out (by kernel_rfl)) (fun _ _ _ h => h) (Or.inl ⟨by rfl, ?_⟩) ?_ ?_
                  rotate_left
                  · intro w'
                    go_simp
                    with_reducible rfl
                  rotate_left
                  · simp only [Act.put, List.setIfInBounds_toArray, List.set_cons_zero, List.set_cons_succ, i64_w, i32_w]
                    rfl
                  refine pure_ (i := 12) (N := some 20) (v := ?_) (a' := ?_) #[true, false, false, false, true, false, false, false, true, false, false, false, true, false, false, false, false, false, false, false, false] rfl rfl (any_of HT_.out (by kernel_rfl)) (fun _ _ _ h => h) (Or.inl ⟨by rfl, ?_⟩) ?_ ?_
                  rotate_left
                  · intro w'
                    go_simp
                    with_reducible rfl
                  rotate_left
                  · simp only [Act.put, List.setIfInBounds_toArray, List.set_cons_zero, List.set_cons_succ, i64_w, i32_w]
                    rfl
                  refine pure_ (i := 16) (N := some 24) (v := ?_) (a' := ?_) #[true, false, false, false, true, false, false, false, true, false, false, false, true, false, false, false, true, false, false, false, false] rfl rfl (any_of HT_.out (by kernel_rfl)) (fun _ _ _ h => h) (Or.inl ⟨by rfl, ?_⟩) ?_ ?_
                  rotate_left
                  · intro w'
                    go_simp
                    with_reducible rfl
                  rotate_left
                  · simp only [Act.put, List.setIfInBounds_toArray, List.set_cons_zero, List.set_cons_succ, i64_w, i32_w]
                    rfl
                  refine take_ (i := 1) (N := some 9) (v := ?_) (a' := ?_) #[true, true, false, false, true, false, false, false, true, false, false, false, true, false, false, false, true, false, false, false, false] rfl rfl (take_ofW HT_.out HW_.out (by kernel_rfl)) (fun _ _ _ h => h) (Or.inl ⟨by rfl, ?_⟩) hHeld ?_ ?_
                  rotate_left
                  · rintro w' ⟨s0, s1, s2, s3, s4⟩
                    go_simp
                    with_reducible rfl
                  rotate_left
                  · simp only [Act.put, List.setIfInBounds_toArray, List.set_cons_zero, List.set_cons_succ, i64_w, i32_w]
                    rfl
                  refine take_ (i := 5) (N := some 13) (v := ?_) (a' := ?_) #[true, true, false, false, true, true, false, false, true, false, false, false, true, false, false, false, true, false, false, false, false] rfl rfl (take_ofW HT_.out HW_.out (by kernel_rfl)) (fun _ _ _ h => h) (Or.inl ⟨by rfl, ?_⟩) hHeld ?_ ?_
                  rotate_left
                  · rintro w' ⟨s0, s1, s2, s3, s4⟩
                    go_simp
                    with_reducible rfl
                  rotate_left
                  · simp only [Act.put, List.setIfInBounds_toArray, List.set_cons_zero, List.set_cons_succ, i64_w, i32_w]
                    rfl
                  refine take_ (i := 9) (N := some 17) (v := ?_) (a' := ?_) #[true, true, false, false, true, true, false, false, true, true, false, false, true, false, false, false, true, false, false, false, false] rfl rfl (take_ofW HT_.out HW_.out (by kernel_rfl)) (fun _ _ _ h => h) (Or.inl ⟨by rfl, ?_⟩) hHeld ?_ ?_
                  rotate_left
                  · rintro w' ⟨s0, s1, s2, s3, s4⟩
                    go_simp
                    with_reducible rfl
                  rotate_left
                  · simp only [Act.put, List.setIfInBounds_toArray, List.set_cons_zero, List.set_cons_succ, i64_w, i32_w]
                    rfl
                  refine take_ (i := 13) (N := some 21) (v := ?_) (a' := ?_) #[true, true, false, false, true, true, false, false, true, true, false, false, true, true, false, false, true, false, false, false, false] rfl rfl (take_ofW HT_.out HW_.out (by kernel_rfl)) (fun _ _ _ h => h) (Or.inl ⟨by rfl, ?_⟩) hHeld ?_ ?_
                  rotate_left
                  · rintro w' ⟨s0, s1, s2, s3, s4⟩
                    go_simp
                    with_reducible rfl
                  rotate_left
                  · simp only [Act.put, List.setIfInBounds_toArray, List.set_cons_zero, List.set_cons_succ, i64_w, i32_w]
                    rfl
                  refine take_ (i := 17) (N := some 25) (v := ?_) (a' := ?_) #[true, true, false, false, true, true, false, false, true, true, false, false, true, true, false, false, true, true, false, false, false] rfl rfl (take_ofW HT_.out HW_.out (by kernel_rfl)) (fun _ _ _ h => h) (Or.inl ⟨by rfl, ?_⟩) hHeld ?_ ?_
                  rotate_left
                  · rintro w' ⟨s0, s1, s2, s3, s4⟩
                    go_simp
                    with_reducible rfl
                  rotate_left
                  · simp only [Act.put, List.setIfInBounds_toArray, List.set_cons_zero, List.set_cons_succ, i64_w, i32_w]
                    rfl
                  refine one_ (i := 2) (N := some 10) #[true, true, true, false, true, true, false, false, true, true, false, false, true, true, false, false, true, true, false, false, false] rfl rfl (one_of HT_.out (by kernel_rfl)) (by decide) (fun K hK => ?_)
                  refine goes_ Tryd.func77 (by kernel_rfl) rfl #[.int .i64 a0_0, .int .i64 8] (by rfl) rfl rfl (by (try simp only [List.map_toArray, List.map_cons, List.map_nil]); first | done | rfl | (simp only [List.length_drop, List.length_take]; rfl)) ?_
                  with_reducible refine (rollbookref04_Number.calls k a0_0 8 t282 _ A4.out).mono ?_
                  rintro e w23 ⟨rfl, hb⟩
                  refine ⟨_, rfl, ?_⟩
                  have n0_ := Aside0.mk (blk_below (g := gb280) (o := .cells #[.int .i64 a0_0, .int .i64 a0_1, .int .i64 a0_2, .int .i64 a0_3, .int .i64 a0_4] 46 (0, 0)) (by (with_reducible repeat (first | refine blk_drewN ?_ _ | refine blk_drew ?_ | refine blk_alloc ?_ _)); exact BK280.out) hb)
                  have n1_ := Aside0.mk (below_step (by repeat (first | (with_reducible first | exact HB.out | apply below_alloc | apply pw_below_drewN | apply below_drew1 | refine below_set ?_ GE280.out) | exact HB.out)) hb)
                  clear BK280
                  clear HB
                  have BK280 := n0_
                  have HB := n1_
                  clear n0_ n1_
                  (try clear hb)
                  (try clear hb2)
                  (try clear hk)
                  (try clear hi)
                  refine hK.out _ _ ⟨(blk_cell BK280.out 0).trans rfl, (blk_cell BK280.out 1).trans rfl, (blk_cell BK280.out 2).trans rfl, (blk_cell BK280.out 3).trans rfl, (blk_cell BK280.out 4).trans rfl⟩ (fun hHeld => ?_)
                  clear hK K
                  refine norm_ (a' := ?_) ?_ ?_
                  rotate_left
                  · show Act.put _ (some 10) _ = _
                    simp only [Act.put, List.setIfInBounds_toArray, List.set_cons_zero, List.set_cons_succ, i64_w, i32_w]
                    rfl
                  refine pure_ (i := 3) (N := some 11) (v := ?_) (a' := ?_) #[true, true, true, true, true, true, false, false, true, true, false, false, true, true, false, false, true, true, false, false, false] rfl rfl (any_of HT_.out (by kernel_rfl)) (fun _ _ _ h => h) (Or.inl ⟨by rfl, ?_⟩) ?_ ?_
                  rotate_left
                  · intro w'
                    go_simp
                    with_reducible rfl
                  rotate_left
                  · simp only [Act.put, List.setIfInBounds_toArray, List.set_cons_zero, List.set_cons_succ, i64_w, i32_w]
                    rfl
                  refine one_ (i := 6) (N := some 14) #[true, true, true, true, true, true, true, false, true, true, false, false, true, true, false, false, true, true, false, false, false] rfl rfl (one_of HT_.out (by kernel_rfl)) (by decide) (fun K hK => ?_)
                  refine goes_ Tryd.func77 (by kernel_rfl) rfl #[.int .i64 a0_1, .int .i64 4] (by rfl) rfl rfl (by (try simp only [List.map_toArray, List.map_cons, List.map_nil]); first | done | rfl | (simp only [List.length_drop, List.length_take]; rfl)) ?_
                  with_reducible refine (rollbookref04_Number.calls k a0_1 4 t283 _ A6.out).mono ?_
                  rintro e w24 ⟨rfl, hb⟩
                  refine ⟨_, rfl, ?_⟩
                  have n0_ := Aside0.mk (blk_below (g := gb280) (o := .cells #[.int .i64 a0_0, .int .i64 a0_1, .int .i64 a0_2, .int .i64 a0_3, .int .i64 a0_4] 46 (0, 0)) (by (with_reducible repeat (first | refine blk_drewN ?_ _ | refine blk_drew ?_ | refine blk_alloc ?_ _)); exact BK280.out) hb)
                  have n1_ := Aside0.mk (below_step (by repeat (first | (with_reducible first | exact HB.out | apply below_alloc | apply pw_below_drewN | apply below_drew1 | refine below_set ?_ GE280.out) | exact HB.out)) hb)
                  clear BK280
                  clear HB
                  have BK280 := n0_
                  have HB := n1_
                  clear n0_ n1_
                  (try clear hb)
                  (try clear hb2)
                  (try clear hk)
                  (try clear hi)
                  refine hK.out _ _ ⟨(blk_cell BK280.out 0).trans rfl, (blk_cell BK280.out 1).trans rfl, (blk_cell BK280.out 2).trans rfl, (blk_cell BK280.out 3).trans rfl, (blk_cell BK280.out 4).trans rfl⟩ (fun hHeld => ?_)
                  clear hK K
                  refine norm_ (a' := ?_) ?_ ?_
                  rotate_left
                  · show Act.put _ (some 14) _ = _
                    simp only [Act.put, List.setIfInBounds_toArray, List.set_cons_zero, List.set_cons_succ, i64_w, i32_w]
                    rfl
                  refine pure_ (i := 7) (N := some 15) (v := ?_) (a' := ?_) #[true, true, true, true, true, true, true, true, true, true, false, false, true, true, false, false, true, true, false, false, false] rfl rfl (any_of HT_.out (by kernel_rfl)) (fun _ _ _ h => h) (Or.inl ⟨by rfl, ?_⟩) ?_ ?_
                  rotate_left
                  · intro w'
                    go_simp
                    with_reducible rfl
                  rotate_left
                  · simp only [Act.put, List.setIfInBounds_toArray, List.set_cons_zero, List.set_cons_succ, i64_w, i32_w]
                    rfl
                  refine one_ (i := 10) (N := some 18) #[true, true, true, true, true, true, true, true, true, true, true, false, true, true, false, false, true, true, false, false, false] rfl rfl (one_of HT_.out (by kernel_rfl)) (by decide) (fun K hK => ?_)
                  refine goes_ Tryd.func77 (by kernel_rfl) rfl #[.int .i64 a0_2, .int .i64 4] (by rfl) rfl rfl (by (try simp only [List.map_toArray, List.map_cons, List.map_nil]); first | done | rfl | (simp only [List.length_drop, List.length_take]; rfl)) ?_
                  with_reducible refine (rollbookref04_Number.calls k a0_2 4 t284 _ A8.out).mono ?_
                  rintro e w25 ⟨rfl, hb⟩
                  refine ⟨_, rfl, ?_⟩
                  have n0_ := Aside0.mk (blk_below (g := gb280) (o := .cells #[.int .i64 a0_0, .int .i64 a0_1, .int .i64 a0_2, .int .i64 a0_3, .int .i64 a0_4] 46 (0, 0)) (by (with_reducible repeat (first | refine blk_drewN ?_ _ | refine blk_drew ?_ | refine blk_alloc ?_ _)); exact BK280.out) hb)
                  have n1_ := Aside0.mk (below_step (by repeat (first | (with_reducible first | exact HB.out | apply below_alloc | apply pw_below_drewN | apply below_drew1 | refine below_set ?_ GE280.out) | exact HB.out)) hb)
                  clear BK280
                  clear HB
                  have BK280 := n0_
                  have HB := n1_
                  clear n0_ n1_
                  (try clear hb)
                  (try clear hb2)
                  (try clear hk)
                  (try clear hi)
                  refine hK.out _ _ ⟨(blk_cell BK280.out 0).trans rfl, (blk_cell BK280.out 1).trans rfl, (blk_cell BK280.out 2).trans rfl, (blk_cell BK280.out 3).trans rfl, (blk_cell BK280.out 4).trans rfl⟩ (fun hHeld => ?_)
                  clear hK K
                  refine norm_ (a' := ?_) ?_ ?_
                  rotate_left
                  · show Act.put _ (some 18) _ = _
                    simp only [Act.put, List.setIfInBounds_toArray, List.set_cons_zero, List.set_cons_succ, i64_w, i32_w]
                    rfl
                  refine pure_ (i := 11) (N := some 19) (v := ?_) (a' := ?_) #[true, true, true, true, true, true, true, true, true, true, true, true, true, true, false, false, true, true, false, false, false] rfl rfl (any_of HT_.out (by kernel_rfl)) (fun _ _ _ h => h) (Or.inl ⟨by rfl, ?_⟩) ?_ ?_
                  rotate_left
                  · intro w'
                    go_simp
                    with_reducible rfl
                  rotate_left
                  · simp only [Act.put, List.setIfInBounds_toArray, List.set_cons_zero, List.set_cons_succ, i64_w, i32_w]
                    rfl
                  refine one_ (i := 14) (N := some 22) #[true, true, true, true, true, true, true, true, true, true, true, true, true, true, true, false, true, true, false, false, false] rfl rfl (one_of HT_.out (by kernel_rfl)) (by decide) (fun K hK => ?_)
                  refine goes_ Tryd.func77 (by kernel_rfl) rfl #[.int .i64 a0_3, .int .i64 4] (by rfl) rfl rfl (by (try simp only [List.map_toArray, List.map_cons, List.map_nil]); first | done | rfl | (simp only [List.length_drop, List.length_take]; rfl)) ?_
                  with_reducible refine (rollbookref04_Number.calls k a0_3 4 t285 _ A10.out).mono ?_
                  rintro e w26 ⟨rfl, hb⟩
                  refine ⟨_, rfl, ?_⟩
                  have n0_ := Aside0.mk (blk_below (g := gb280) (o := .cells #[.int .i64 a0_0, .int .i64 a0_1, .int .i64 a0_2, .int .i64 a0_3, .int .i64 a0_4] 46 (0, 0)) (by (with_reducible repeat (first | refine blk_drewN ?_ _ | refine blk_drew ?_ | refine blk_alloc ?_ _)); exact BK280.out) hb)
                  have n1_ := Aside0.mk (below_step (by repeat (first | (with_reducible first | exact HB.out | apply below_alloc | apply pw_below_drewN | apply below_drew1 | refine below_set ?_ GE280.out) | exact HB.out)) hb)
                  clear BK280
                  clear HB
                  have BK280 := n0_
                  have HB := n1_
                  clear n0_ n1_
                  (try clear hb)
                  (try clear hb2)
                  (try clear hk)
                  (try clear hi)
                  refine hK.out _ _ ⟨(blk_cell BK280.out 0).trans rfl, (blk_cell BK280.out 1).trans rfl, (blk_cell BK280.out 2).trans rfl, (blk_cell BK280.out 3).trans rfl, (blk_cell BK280.out 4).trans rfl⟩ (fun hHeld => ?_)
                  clear hK K
                  refine norm_ (a' := ?_) ?_ ?_
                  rotate_left
                  · show Act.put _ (some 22) _ = _
                    simp only [Act.put, List.setIfInBounds_toArray, List.set_cons_zero, List.set_cons_succ, i64_w, i32_w]
                    rfl
                  refine pure_ (i := 15) (N := some 23) (v := ?_) (a' := ?_) #[true, true, true, true, true, true, true, true, true, true, true, true, true, true, true, true, true, true, false, false, false] rfl rfl (any_of HT_.out (by kernel_rfl)) (fun _ _ _ h => h) (Or.inl ⟨by rfl, ?_⟩) ?_ ?_
                  rotate_left
                  · intro w'
                    go_simp
                    with_reducible rfl
                  rotate_left
                  · simp only [Act.put, List.setIfInBounds_toArray, List.set_cons_zero, List.set_cons_succ, i64_w, i32_w]
                    rfl
                  refine one_ (i := 18) (N := some 26) #[true, true, true, true, true, true, true, true, true, true, true, true, true, true, true, true, true, true, true, false, false] rfl rfl (one_of HT_.out (by kernel_rfl)) (by decide) (fun K hK => ?_)
                  refine goes_ Tryd.func77 (by kernel_rfl) rfl #[.int .i64 a0_4, .int .i64 4] (by rfl) rfl rfl (by (try simp only [List.map_toArray, List.map_cons, List.map_nil]); first | done | rfl | (simp only [List.length_drop, List.length_take]; rfl)) ?_
                  with_reducible refine (rollbookref04_Number.calls k a0_4 4 t286 _ A12.out).mono ?_
                  rintro e w27 ⟨rfl, hb⟩
                  refine ⟨_, rfl, ?_⟩
                  have n0_ := Aside0.mk (blk_below (g := gb280) (o := .cells #[.int .i64 a0_0, .int .i64 a0_1, .int .i64 a0_2, .int .i64 a0_3, .int .i64 a0_4] 46 (0, 0)) (by (with_reducible repeat (first | refine blk_drewN ?_ _ | refine blk_drew ?_ | refine blk_alloc ?_ _)); exact BK280.out) hb)
                  have n1_ := Aside0.mk (below_step (by repeat (first | (with_reducible first | exact HB.out | apply below_alloc | apply pw_below_drewN | apply below_drew1 | refine below_set ?_ GE280.out) | exact HB.out)) hb)
                  clear BK280
                  clear HB
                  have BK280 := n0_
                  have HB := n1_
                  clear n0_ n1_
                  (try clear hb)
                  (try clear hb2)
                  (try clear hk)
                  (try clear hi)
                  refine hK.out _ _ ⟨(blk_cell BK280.out 0).trans rfl, (blk_cell BK280.out 1).trans rfl, (blk_cell BK280.out 2).trans rfl, (blk_cell BK280.out 3).trans rfl, (blk_cell BK280.out 4).trans rfl⟩ (fun hHeld => ?_)
                  clear hK K
                  refine norm_ (a' := ?_) ?_ ?_
                  rotate_left
                  · show Act.put _ (some 26) _ = _
                    simp only [Act.put, List.setIfInBounds_toArray, List.set_cons_zero, List.set_cons_succ, i64_w, i32_w]
                    rfl
                  refine pure_ (i := 19) (N := some 27) (v := ?_) (a' := ?_) #[true, true, true, true, true, true, true, true, true, true, true, true, true, true, true, true, true, true, true, true, false] rfl rfl (any_of HT_.out (by kernel_rfl)) (fun _ _ _ h => h) (Or.inl ⟨by rfl, ?_⟩) ?_ ?_
                  rotate_left
                  · intro w'
                    go_simp
                    with_reducible rfl
                  rotate_left
                  · simp only [Act.put, List.setIfInBounds_toArray, List.set_cons_zero, List.set_cons_succ, i64_w, i32_w]
                    rfl
                  refine pure_ (i := 20) (N := some 4) (v := ?_) (a' := ?_) #[true, true, true, true, true, true, true, true, true, true, true, true, true, true, true, true, true, true, true, true, true] rfl rfl (any_of HT_.out (by kernel_rfl)) (fun _ _ _ h => h) (Or.inl ⟨by rfl, ?_⟩) ?_ ?_
                  rotate_left
                  · intro w'
                    go_simp
                    with_reducible rfl
                  rotate_left
                  · simp only [Act.put, List.setIfInBounds_toArray, List.set_cons_zero, List.set_cons_succ, i64_w, i32_w]
                    rfl
                  refine done_ (done_of HT_.out (by kernel_rfl)) ?_
                  try go_wp2_with (first | ((with_reducible refine gate_callee (f := 25) rfl ?_); refine goesL_ (some 30) rfl rfl Tryd.func25 (by kernel_rfl) rfl #[.string ((((((⟨#[82, 79, 76, 76, 66, 79, 79, 75]⟩ : ByteArray) ++ t282) ++ t283) ++ t284) ++ t285) ++ t286)] rfl (by (try simp only [List.map_toArray, List.map_cons, List.map_nil]); first | done | rfl | (simp only [List.length_drop, List.length_take]; rfl)) ?_; (with_reducible refine (rollbookref02_Sum.calls k ((((((⟨#[82, 79, 76, 76, 66, 79, 79, 75]⟩ : ByteArray) ++ t282) ++ t283) ++ t284) ++ t285) ++ t286) t287 _ A14.out).mono ?_); rintro e w' ⟨rfl, ⟨nd, rfl⟩⟩; refine ⟨_, rfl, ?_⟩) | ((with_reducible refine gate_callee (f := 77) rfl ?_); refine goesL_ (some 32) rfl rfl Tryd.func77 (by kernel_rfl) rfl #[.int .i64 (wrap64 (t287)), .int .i64 4] rfl (by (try simp only [List.map_toArray, List.map_cons, List.map_nil]); first | done | rfl | (simp only [List.length_drop, List.length_take]; rfl)) ?_; (with_reducible refine (rollbookref04_Number.calls k (wrap64 (t287)) 4 t288 _ A15.out).mono ?_); rintro e w28 ⟨rfl, hb⟩; refine ⟨_, rfl, ?_⟩; have n0_ := Aside0.mk (blk_below (g := gb280) (o := .cells #[.int .i64 a0_0, .int .i64 a0_1, .int .i64 a0_2, .int .i64 a0_3, .int .i64 a0_4] 46 (0, 0)) (by (with_reducible repeat (first | refine blk_drewN ?_ _ | refine blk_drew ?_ | refine blk_alloc ?_ _)); exact BK280.out) hb); have n1_ := Aside0.mk (below_step (by repeat (first | (with_reducible first | exact HB.out | apply below_alloc | apply pw_below_drewN | apply below_drew1 | refine below_set ?_ GE280.out) | exact HB.out)) hb); clear BK280; clear HB; have BK280 := n0_; have HB := n1_; clear n0_ n1_; (try clear hb); (try clear hb2); (try clear hk); (try clear hi)) | ((with_reducible refine gate_callee (f := 76) rfl ?_); refine goesL_ (some 34) rfl rfl Tryd.func76 (by kernel_rfl) rfl #[.int .i64 92] rfl (by (try simp only [List.map_toArray, List.map_cons, List.map_nil]); first | done | rfl | (simp only [List.length_drop, List.length_take]; rfl)) ?_; (with_reducible refine (rollbookref04_Noughts.calls k 92 t289 _ A17.out).mono ?_); rintro e w29 ⟨rfl, hb⟩; refine ⟨_, rfl, ?_⟩; have n0_ := Aside0.mk (blk_below (g := gb280) (o := .cells #[.int .i64 a0_0, .int .i64 a0_1, .int .i64 a0_2, .int .i64 a0_3, .int .i64 a0_4] 46 (0, 0)) (by (with_reducible repeat (first | refine blk_drewN ?_ _ | refine blk_drew ?_ | refine blk_alloc ?_ _)); exact BK280.out) hb); have n1_ := Aside0.mk (below_step (by repeat (first | (with_reducible first | exact HB.out | apply below_alloc | apply pw_below_drewN | apply below_drew1 | refine below_set ?_ GE280.out) | exact HB.out)) hb); clear BK280; clear HB; have BK280 := n0_; have HB := n1_; clear n0_ n1_; (try clear hb); (try clear hb2); (try clear hk); (try clear hi)))
                  go_ret2
                  exact ⟨by first | rfl | (simp [errW_none, errW_some] <;> rfl) | (simp [*, errW_none, errW_some] <;> rfl), by repeat (first | (with_reducible first | exact HB.out | apply below_alloc | apply pw_below_drewN | apply below_drew1 | refine below_set ?_ GE280.out) | exact HB.out)⟩
                · rw [if_neg c18] at H
                  exact absurd H (by simp)
              · rw [if_neg c16] at H
                exact absurd H (by simp)
            · rw [if_neg c13] at H
              exact absurd H (by simp)
          · rw [if_neg c11] at H
            exact absurd H (by simp)
        · rw [if_neg c9] at H
          exact absurd H (by simp)
      · rw [if_neg c7] at H
        exact absurd H (by simp)
    · rw [if_neg c5] at H
      exact absurd H (by simp)
  · replace c3 := Bool.eq_false_iff.mpr c3
    subst c3
    have H1 : (some ((⟨#[]⟩ : ByteArray), 4)) = some (r1, r2) := by rw [if_neg (show ¬ (false = true) by decide)] at H; exact H
    clear H
    have H := H1
    clear H1
    simp only [Option.some.injEq, Prod.mk.injEq] at H
    obtain ⟨rfl, rfl⟩ := H
    go_enter Tryd.func40, Tryd.ntmps40
    go_wp2_with (first | ((with_reducible refine gate_dst (N := 1) rfl ?_); refine box_event ?hg (N := 1) ?hd (cs := #[.int .i64 a0_0, .int .i64 a0_1, .int .i64 a0_2, .int .i64 a0_3, .int .i64 a0_4]) (t := 46) ?hr ?_; (case hd => rfl); (case hg => rfl); (case hr => first | (go_simp; done) | (go_simp; rfl)); intro gb280 hg w30 hbox hb; have n0_ := Aside0.mk (below_step (by repeat (first | (with_reducible first | exact HB.out | apply below_alloc | apply pw_below_drewN | apply below_drew1) | exact HB.out)) hb); have n1_ := Aside0.mk (hbox); have n2_ := Aside0.mk ((by rw [hg]; exact (below_size (by repeat (first | (with_reducible first | exact HB.out | apply below_alloc | apply pw_below_drewN | apply below_drew1) | exact HB.out))) : w.heap.size ≤ gb280)); have n3_ := Aside0.mk ((by rw [hg]; exact (below_size (by repeat (first | (with_reducible first | exact HB.out | apply below_alloc | apply pw_below_drewN | apply below_drew1) | exact HB.out))) : w.heap.size ≤ gb280)); clear HB; have HB := n0_; have BK280 := n1_; have GW280 := n2_; have GE280 := n3_; clear n0_ n1_ n2_ n3_; clear hb hbox hg; have hcz31_0 : w30.cell? ⟨gb280, 0, none⟩ = some (.int .i64 a0_0) := (blk_cell BK280.out 0).trans rfl; have hcz31_1 : w30.cell? ⟨gb280, 1, none⟩ = some (.int .i64 a0_1) := (blk_cell BK280.out 1).trans rfl; have hcz31_2 : w30.cell? ⟨gb280, 2, none⟩ = some (.int .i64 a0_2) := (blk_cell BK280.out 2).trans rfl; have hcz31_3 : w30.cell? ⟨gb280, 3, none⟩ = some (.int .i64 a0_3) := (blk_cell BK280.out 3).trans rfl; have hcz31_4 : w30.cell? ⟨gb280, 4, none⟩ = some (.int .i64 a0_4) := (blk_cell BK280.out 4).trans rfl; have hfz31_0 := blk_frozen BK280.out 0; have hfz31_1 := blk_frozen BK280.out 1; have hfz31_2 := blk_frozen BK280.out 2; have hfz31_3 := blk_frozen BK280.out 3; have hfz31_4 := blk_frozen BK280.out 4) | ((with_reducible refine gate_callee (f := 42) rfl ?_); refine goesL_ (some 6) rfl rfl Tryd.func42 (by kernel_rfl) rfl #[.agg #[.int .i64 a0_0, .int .i64 a0_1, .int .i64 a0_2, .int .i64 a0_3, .int .i64 a0_4]] rfl (by (try simp only [List.map_toArray, List.map_cons, List.map_nil]); first | done | rfl | (simp only [List.length_drop, List.length_take]; rfl)) ?_; (with_reducible refine (rollbookref04_RightMeta.calls a0_0 a0_1 a0_2 a0_3 a0_4 false _ A2.out).mono ?_); rintro e w32 ⟨rfl, hb⟩; refine ⟨_, rfl, ?_⟩; have n0_ := Aside0.mk (blk_below (g := gb280) (o := .cells #[.int .i64 a0_0, .int .i64 a0_1, .int .i64 a0_2, .int .i64 a0_3, .int .i64 a0_4] 46 (0, 0)) (by (with_reducible repeat (first | refine blk_drewN ?_ _ | refine blk_drew ?_ | refine blk_alloc ?_ _)); exact BK280.out) hb); have n1_ := Aside0.mk (below_step (by repeat (first | (with_reducible first | exact HB.out | apply below_alloc | apply pw_below_drewN | apply below_drew1 | refine below_set ?_ GE280.out) | exact HB.out)) hb); clear BK280; clear HB; have BK280 := n0_; have HB := n1_; clear n0_ n1_; (try clear hb); (try clear hb2); (try clear hk); (try clear hi)))
    go_ret2
    exact ⟨by first | rfl | (simp [errW_none, errW_some] <;> rfl) | (simp [*, errW_none, errW_some] <;> rfl), by repeat (first | (with_reducible first | exact HB.out | apply below_alloc | apply pw_below_drewN | apply below_drew1 | refine below_set ?_ GE280.out) | exact HB.out)⟩

end Go.Proofs.YtcoddeemfdnjpaaDoor.Fn
namespace Go.Proofs.YtcoddeemfdnjpaaDoor.Fn
open Go.RowKit Go.Proofs.YtcoddeemfdnjpaaDoorW.PrintWords Go.Proofs.YtcoddeemfdnjpaaDoorW.PrintLast Go.Proofs.YtcoddeemfdnjpaaDoorW.PrintMore
attribute [local go_sem] max2_int min2_int max_two min_two max_three min_three max_four min_four   -- for this text's walks alone
set_option linter.unusedVariables false
set_option linter.unusedSimpArgs false

/-! ### rollbookref04_UnpackMeta: function 38 -/
def rollbookref04_UnpackMeta.f (k : Nat) (a0 : ByteArray) : Option (Int × Int × Int × Int × Int × Int) := if (a0.size : Int) = 128 then ((rollbookref01_Take.f k a0 8 8).bind fun bt291 => ((rollbookref01_Take.f k a0 16 4).bind fun bt293 => ((rollbookref01_Take.f k a0 20 4).bind fun bt295 => ((rollbookref01_Take.f k a0 24 4).bind fun bt297 => ((rollbookref01_Take.f k a0 28 4).bind fun bt299 => (if bt291.1 > 1099511627776 then (some (0, 0, 0, 0, 0, 4)) else ((rollbookref04_PackMeta.f k (wrap64 (bt291.1)) (wrap64 (bt293.1)) (wrap64 (bt295.1)) (wrap64 (bt297.1)) (wrap64 (bt299.1))).bind fun bt302 => (if bt302.2 = 0 then (if bt302.1.toList = a0.toList then (some (wrap64 (bt291.1), wrap64 (bt293.1), wrap64 (bt295.1), wrap64 (bt297.1), wrap64 (bt299.1), 0)) else (some (0, 0, 0, 0, 0, 4))) else (some (0, 0, 0, 0, 0, 4)))))))))) else (some (0, 0, 0, 0, 0, 4))
theorem rollbookref04_UnpackMeta.mono : ∀ a0 k, LeO (rollbookref04_UnpackMeta.f k a0) (rollbookref04_UnpackMeta.f (k + 1) a0) := by
  intro a0 k
  unfold rollbookref04_UnpackMeta.f
  repeat' first
      | (with_reducible exact rollbookref01_Take.mono _ _ _ _)
      | (with_reducible exact rollbookref04_PackMeta.mono _ _ _ _ _ _)
      | (with_reducible exact LeO.refl _)
      | (with_reducible exact LeO.none _)
      | (with_reducible refine LeO.ite ?_ ?_)
      | (with_reducible refine LeO.bind ?_ (fun _ => ?_))
      | exact rollbookref01_Take.mono _ _ _ _
      | exact rollbookref04_PackMeta.mono _ _ _ _ _ _
      | exact LeO.none _
      | refine LeO.ite ?_ ?_
      | refine LeO.bind ?_ (fun _ => ?_)
set_option maxHeartbeats 8000000 in
set_option maxRecDepth 100000 in
theorem rollbookref04_UnpackMeta.calls (k : Nat) (a0 : ByteArray) (r1 : Int) (r2 : Int) (r3 : Int) (r4 : Int) (r5 : Int) (r6 : Int) (w : World) (h : rollbookref04_UnpackMeta.f k a0 = some (r1, r2, r3, r4, r5, r6)) :
    Calls Tryd.prog 38 #[.string a0] w fun e w' => e = .returned (.tuple #[.agg #[.int .i64 r1, .int .i64 r2, .int .i64 r3, .int .i64 r4, .int .i64 r5], .int .i64 r6]) ∧ Below w.heap.size w w' := by
  have hu46 := Tryd.underlying46
  have HB := Aside0.mk (Below.refl w.heap.size w)
  have H : (if (a0.size : Int) = 128 then ((rollbookref01_Take.f k a0 8 8).bind fun bt291 => ((rollbookref01_Take.f k a0 16 4).bind fun bt293 => ((rollbookref01_Take.f k a0 20 4).bind fun bt295 => ((rollbookref01_Take.f k a0 24 4).bind fun bt297 => ((rollbookref01_Take.f k a0 28 4).bind fun bt299 => (if bt291.1 > 1099511627776 then (some (0, 0, 0, 0, 0, 4)) else ((rollbookref04_PackMeta.f k (wrap64 (bt291.1)) (wrap64 (bt293.1)) (wrap64 (bt295.1)) (wrap64 (bt297.1)) (wrap64 (bt299.1))).bind fun bt302 => (if bt302.2 = 0 then (if bt302.1.toList = a0.toList then (some (wrap64 (bt291.1), wrap64 (bt293.1), wrap64 (bt295.1), wrap64 (bt297.1), wrap64 (bt299.1), 0)) else (some (0, 0, 0, 0, 0, 4))) else (some (0, 0, 0, 0, 0, 4)))))))))) else (some (0, 0, 0, 0, 0, 4))) = some (r1, r2, r3, r4, r5, r6) := h
  clear h
  by_cases c2 : (a0.size : Int) = 128
  · rw [if_pos c2] at H
    have c2b0 : ((a0.size : Int) == 128) = true := beq_iff_eq.mpr c2
    have c2b1 : ((a0.size : Int) != 128) = false := bne_eq_false_iff_eq.mpr c2
    clear c2
    replace H := Option.bind_eq_some_iff.mp H
    obtain ⟨⟨t291, t292⟩, A30, H⟩ := H
    replace H : ((rollbookref01_Take.f k a0 16 4).bind fun bt293 => ((rollbookref01_Take.f k a0 20 4).bind fun bt295 => ((rollbookref01_Take.f k a0 24 4).bind fun bt297 => ((rollbookref01_Take.f k a0 28 4).bind fun bt299 => (if t291 > 1099511627776 then (some (0, 0, 0, 0, 0, 4)) else ((rollbookref04_PackMeta.f k (wrap64 (t291)) (wrap64 (bt293.1)) (wrap64 (bt295.1)) (wrap64 (bt297.1)) (wrap64 (bt299.1))).bind fun bt302 => (if bt302.2 = 0 then (if bt302.1.toList = a0.toList then (some (wrap64 (t291), wrap64 (bt293.1), wrap64 (bt295.1), wrap64 (bt297.1), wrap64 (bt299.1), 0)) else (some (0, 0, 0, 0, 0, 4))) else (some (0, 0, 0, 0, 0, 4))))))))) = some (r1, r2, r3, r4, r5, r6) := H
    have A3 := Aside0.mk A30
    clear A30
    replace H := Option.bind_eq_some_iff.mp H
    obtain ⟨⟨t293, t294⟩, A40, H⟩ := H
    replace H : ((rollbookref01_Take.f k a0 20 4).bind fun bt295 => ((rollbookref01_Take.f k a0 24 4).bind fun bt297 => ((rollbookref01_Take.f k a0 28 4).bind fun bt299 => (if t291 > 1099511627776 then (some (0, 0, 0, 0, 0, 4)) else ((rollbookref04_PackMeta.f k (wrap64 (t291)) (wrap64 (t293)) (wrap64 (bt295.1)) (wrap64 (bt297.1)) (wrap64 (bt299.1))).bind fun bt302 => (if bt302.2 = 0 then (if bt302.1.toList = a0.toList then (some (wrap64 (t291), wrap64 (t293), wrap64 (bt295.1), wrap64 (bt297.1), wrap64 (bt299.1), 0)) else (some (0, 0, 0, 0, 0, 4))) else (some (0, 0, 0, 0, 0, 4)))))))) = some (r1, r2, r3, r4, r5, r6) := H
    have A4 := Aside0.mk A40
    clear A40
    replace H := Option.bind_eq_some_iff.mp H
    obtain ⟨⟨t295, t296⟩, A50, H⟩ := H
    replace H : ((rollbookref01_Take.f k a0 24 4).bind fun bt297 => ((rollbookref01_Take.f k a0 28 4).bind fun bt299 => (if t291 > 1099511627776 then (some (0, 0, 0, 0, 0, 4)) else ((rollbookref04_PackMeta.f k (wrap64 (t291)) (wrap64 (t293)) (wrap64 (t295)) (wrap64 (bt297.1)) (wrap64 (bt299.1))).bind fun bt302 => (if bt302.2 = 0 then (if bt302.1.toList = a0.toList then (some (wrap64 (t291), wrap64 (t293), wrap64 (t295), wrap64 (bt297.1), wrap64 (bt299.1), 0)) else (some (0, 0, 0, 0, 0, 4))) else (some (0, 0, 0, 0, 0, 4))))))) = some (r1, r2, r3, r4, r5, r6) := H
    have A5 := Aside0.mk A50
    clear A50
    replace H := Option.bind_eq_some_iff.mp H
    obtain ⟨⟨t297, t298⟩, A60, H⟩ := H
    replace H : ((rollbookref01_Take.f k a0 28 4).bind fun bt299 => (if t291 > 1099511627776 then (some (0, 0, 0, 0, 0, 4)) else ((rollbookref04_PackMeta.f k (wrap64 (t291)) (wrap64 (t293)) (wrap64 (t295)) (wrap64 (t297)) (wrap64 (bt299.1))).bind fun bt302 => (if bt302.2 = 0 then (if bt302.1.toList = a0.toList then (some (wrap64 (t291), wrap64 (t293), wrap64 (t295), wrap64 (t297), wrap64 (bt299.1), 0)) else (some (0, 0, 0, 0, 0, 4))) else (some (0, 0, 0, 0, 0, 4)))))) = some (r1, r2, r3, r4, r5, r6) := H
    have A6 := Aside0.mk A60
    clear A60
    replace H := Option.bind_eq_some_iff.mp H
    obtain ⟨⟨t299, t300⟩, A70, H⟩ := H
    replace H : (if t291 > 1099511627776 then (some (0, 0, 0, 0, 0, 4)) else ((rollbookref04_PackMeta.f k (wrap64 (t291)) (wrap64 (t293)) (wrap64 (t295)) (wrap64 (t297)) (wrap64 (t299))).bind fun bt302 => (if bt302.2 = 0 then (if bt302.1.toList = a0.toList then (some (wrap64 (t291), wrap64 (t293), wrap64 (t295), wrap64 (t297), wrap64 (t299), 0)) else (some (0, 0, 0, 0, 0, 4))) else (some (0, 0, 0, 0, 0, 4))))) = some (r1, r2, r3, r4, r5, r6) := H
    have A7 := Aside0.mk A70
    clear A70
    by_cases c8 : t291 > 1099511627776
    · rw [if_pos c8] at H
      have c8b0 : decide (1099511627776 < t291) = true := decide_eq_true c8
      clear c8
      simp only [Option.some.injEq, Prod.mk.injEq] at H
      obtain ⟨rfl, rfl, rfl, rfl, rfl, rfl⟩ := H
      go_enter Tryd.func38, Tryd.ntmps38
      go_wp2_with (first | ((with_reducible refine gate_dst (N := 2) rfl ?_); refine box_event ?hg (N := 2) ?hd (cs := #[.int .i64 0, .int .i64 0, .int .i64 0, .int .i64 0, .int .i64 0]) (t := 46) ?hr ?_; (case hd => rfl); (case hg => rfl); (case hr => first | (go_simp; done) | (go_simp; rfl)); intro gb290 hg w9 hbox hb; have n0_ := Aside0.mk (below_step (by repeat (first | (with_reducible first | exact HB.out | apply below_alloc | apply pw_below_drewN | apply below_drew1) | exact HB.out)) hb); have n1_ := Aside0.mk (hbox); have n2_ := Aside0.mk ((by rw [hg]; exact (below_size (by repeat (first | (with_reducible first | exact HB.out | apply below_alloc | apply pw_below_drewN | apply below_drew1) | exact HB.out))) : w.heap.size ≤ gb290)); have n3_ := Aside0.mk ((by rw [hg]; exact (below_size (by repeat (first | (with_reducible first | exact HB.out | apply below_alloc | apply pw_below_drewN | apply below_drew1) | exact HB.out))) : w.heap.size ≤ gb290)); clear HB; have HB := n0_; have BK290 := n1_; have GW290 := n2_; have GE290 := n3_; clear n0_ n1_ n2_ n3_; clear hb hbox hg) | ((with_reducible refine gate_callee (f := 51) rfl ?_); refine goesL_ (some 23) rfl rfl Tryd.func51 (by kernel_rfl) rfl #[.string a0, .int .i64 8, .int .i64 8] rfl (by (try simp only [List.map_toArray, List.map_cons, List.map_nil]); first | done | rfl | (simp only [List.length_drop, List.length_take]; rfl)) ?_; (with_reducible refine (rollbookref01_Take.calls k a0 8 8 t291 t292 _ A3.out).mono ?_); rintro e w' ⟨rfl, ⟨nd, rfl⟩⟩; refine ⟨_, rfl, ?_⟩; (try (rw [drewN_self w9]; generalize hq_ : World.drewN w9 _ = w9; have n0_ : Aside0 (w9.heap[gb290]? = some (.cells #[.int .i64 0, .int .i64 0, .int .i64 0, .int .i64 0, .int .i64 0] 46 (0, 0))) := ⟨by rw [← hq_]; exact (by (with_reducible repeat (first | refine blk_drewN ?_ _ | refine blk_drew ?_ | refine blk_alloc ?_ _)); exact BK290.out)⟩; have n1_ : Aside0 (Below w.heap.size w w9) := ⟨by rw [← hq_]; exact (by repeat (first | (with_reducible first | exact HB.out | apply below_alloc | apply pw_below_drewN | apply below_drew1 | refine below_set ?_ GE290.out) | exact HB.out))⟩; clear BK290 HB hq_; have BK290 := n0_; have HB := n1_; clear n0_ n1_))) | ((with_reducible refine gate_callee (f := 51) rfl ?_); refine goesL_ (some 28) rfl rfl Tryd.func51 (by kernel_rfl) rfl #[.string a0, .int .i64 16, .int .i64 4] rfl (by (try simp only [List.map_toArray, List.map_cons, List.map_nil]); first | done | rfl | (simp only [List.length_drop, List.length_take]; rfl)) ?_; (with_reducible refine (rollbookref01_Take.calls k a0 16 4 t293 t294 _ A4.out).mono ?_); rintro e w' ⟨rfl, ⟨nd, rfl⟩⟩; refine ⟨_, rfl, ?_⟩; (try (rw [drewN_self w9]; generalize hq_ : World.drewN w9 _ = w9; have n0_ : Aside0 (w9.heap[gb290]? = some (.cells #[.int .i64 0, .int .i64 0, .int .i64 0, .int .i64 0, .int .i64 0] 46 (0, 0))) := ⟨by rw [← hq_]; exact (by (with_reducible repeat (first | refine blk_drewN ?_ _ | refine blk_drew ?_ | refine blk_alloc ?_ _)); exact BK290.out)⟩; have n1_ : Aside0 (Below w.heap.size w w9) := ⟨by rw [← hq_]; exact (by repeat (first | (with_reducible first | exact HB.out | apply below_alloc | apply pw_below_drewN | apply below_drew1 | refine below_set ?_ GE290.out) | exact HB.out))⟩; clear BK290 HB hq_; have BK290 := n0_; have HB := n1_; clear n0_ n1_))) | ((with_reducible refine gate_callee (f := 51) rfl ?_); refine goesL_ (some 33) rfl rfl Tryd.func51 (by kernel_rfl) rfl #[.string a0, .int .i64 20, .int .i64 4] rfl (by (try simp only [List.map_toArray, List.map_cons, List.map_nil]); first | done | rfl | (simp only [List.length_drop, List.length_take]; rfl)) ?_; (with_reducible refine (rollbookref01_Take.calls k a0 20 4 t295 t296 _ A5.out).mono ?_); rintro e w' ⟨rfl, ⟨nd, rfl⟩⟩; refine ⟨_, rfl, ?_⟩; (try (rw [drewN_self w9]; generalize hq_ : World.drewN w9 _ = w9; have n0_ : Aside0 (w9.heap[gb290]? = some (.cells #[.int .i64 0, .int .i64 0, .int .i64 0, .int .i64 0, .int .i64 0] 46 (0, 0))) := ⟨by rw [← hq_]; exact (by (with_reducible repeat (first | refine blk_drewN ?_ _ | refine blk_drew ?_ | refine blk_alloc ?_ _)); exact BK290.out)⟩; have n1_ : Aside0 (Below w.heap.size w w9) := ⟨by rw [← hq_]; exact (by repeat (first | (with_reducible first | exact HB.out | apply below_alloc | apply pw_below_drewN | apply below_drew1 | refine below_set ?_ GE290.out) | exact HB.out))⟩; clear BK290 HB hq_; have BK290 := n0_; have HB := n1_; clear n0_ n1_))) | ((with_reducible refine gate_callee (f := 51) rfl ?_); refine goesL_ (some 38) rfl rfl Tryd.func51 (by kernel_rfl) rfl #[.string a0, .int .i64 24, .int .i64 4] rfl (by (try simp only [List.map_toArray, List.map_cons, List.map_nil]); first | done | rfl | (simp only [List.length_drop, List.length_take]; rfl)) ?_; (with_reducible refine (rollbookref01_Take.calls k a0 24 4 t297 t298 _ A6.out).mono ?_); rintro e w' ⟨rfl, ⟨nd, rfl⟩⟩; refine ⟨_, rfl, ?_⟩; (try (rw [drewN_self w9]; generalize hq_ : World.drewN w9 _ = w9; have n0_ : Aside0 (w9.heap[gb290]? = some (.cells #[.int .i64 0, .int .i64 0, .int .i64 0, .int .i64 0, .int .i64 0] 46 (0, 0))) := ⟨by rw [← hq_]; exact (by (with_reducible repeat (first | refine blk_drewN ?_ _ | refine blk_drew ?_ | refine blk_alloc ?_ _)); exact BK290.out)⟩; have n1_ : Aside0 (Below w.heap.size w w9) := ⟨by rw [← hq_]; exact (by repeat (first | (with_reducible first | exact HB.out | apply below_alloc | apply pw_below_drewN | apply below_drew1 | refine below_set ?_ GE290.out) | exact HB.out))⟩; clear BK290 HB hq_; have BK290 := n0_; have HB := n1_; clear n0_ n1_))) | ((with_reducible refine gate_callee (f := 51) rfl ?_); refine goesL_ (some 43) rfl rfl Tryd.func51 (by kernel_rfl) rfl #[.string a0, .int .i64 28, .int .i64 4] rfl (by (try simp only [List.map_toArray, List.map_cons, List.map_nil]); first | done | rfl | (simp only [List.length_drop, List.length_take]; rfl)) ?_; (with_reducible refine (rollbookref01_Take.calls k a0 28 4 t299 t300 _ A7.out).mono ?_); rintro e w' ⟨rfl, ⟨nd, rfl⟩⟩; refine ⟨_, rfl, ?_⟩; (try (rw [drewN_self w9]; generalize hq_ : World.drewN w9 _ = w9; have n0_ : Aside0 (w9.heap[gb290]? = some (.cells #[.int .i64 0, .int .i64 0, .int .i64 0, .int .i64 0, .int .i64 0] 46 (0, 0))) := ⟨by rw [← hq_]; exact (by (with_reducible repeat (first | refine blk_drewN ?_ _ | refine blk_drew ?_ | refine blk_alloc ?_ _)); exact BK290.out)⟩; have n1_ : Aside0 (Below w.heap.size w w9) := ⟨by rw [← hq_]; exact (by repeat (first | (with_reducible first | exact HB.out | apply below_alloc | apply pw_below_drewN | apply below_drew1 | refine below_set ?_ GE290.out) | exact HB.out))⟩; clear BK290 HB hq_; have BK290 := n0_; have HB := n1_; clear n0_ n1_)); have hcz10_0 : w9.cell? ⟨gb290, 0, none⟩ = some (.int .i64 0) := (blk_cell BK290.out 0).trans rfl; have hcz10_1 : w9.cell? ⟨gb290, 1, none⟩ = some (.int .i64 0) := (blk_cell BK290.out 1).trans rfl; have hcz10_2 : w9.cell? ⟨gb290, 2, none⟩ = some (.int .i64 0) := (blk_cell BK290.out 2).trans rfl; have hcz10_3 : w9.cell? ⟨gb290, 3, none⟩ = some (.int .i64 0) := (blk_cell BK290.out 3).trans rfl; have hcz10_4 : w9.cell? ⟨gb290, 4, none⟩ = some (.int .i64 0) := (blk_cell BK290.out 4).trans rfl; have hfz10_0 := blk_frozen BK290.out 0; have hfz10_1 := blk_frozen BK290.out 1; have hfz10_2 := blk_frozen BK290.out 2; have hfz10_3 := blk_frozen BK290.out 3; have hfz10_4 := blk_frozen BK290.out 4))
      refine bodyPost_ret (results_ct rfl _ _ gb290 46 #[.int .i64 0, .int .i64 0, .int .i64 0, .int .i64 0, .int .i64 0] (0, 0) _ rfl (by (with_reducible repeat (first | refine blk_drewN ?_ _ | refine blk_drew ?_ | refine blk_alloc ?_ _)); refine blk_put (cs := #[.int .i64 0, .int .i64 0, .int .i64 0, .int .i64 0, .int .i64 0]) ?_ 4 _ rfl; (with_reducible repeat (first | refine blk_drewN ?_ _ | refine blk_drew ?_ | refine blk_alloc ?_ _)); refine blk_put (cs := #[.int .i64 0, .int .i64 0, .int .i64 0, .int .i64 0, .int .i64 0]) ?_ 3 _ rfl; (with_reducible repeat (first | refine blk_drewN ?_ _ | refine blk_drew ?_ | refine blk_alloc ?_ _)); refine blk_put (cs := #[.int .i64 0, .int .i64 0, .int .i64 0, .int .i64 0, .int .i64 0]) ?_ 2 _ rfl; (with_reducible repeat (first | refine blk_drewN ?_ _ | refine blk_drew ?_ | refine blk_alloc ?_ _)); refine blk_put (cs := #[.int .i64 0, .int .i64 0, .int .i64 0, .int .i64 0, .int .i64 0]) ?_ 1 _ rfl; (with_reducible repeat (first | refine blk_drewN ?_ _ | refine blk_drew ?_ | refine blk_alloc ?_ _)); refine blk_put (cs := #[.int .i64 0, .int .i64 0, .int .i64 0, .int .i64 0, .int .i64 0]) ?_ 0 _ rfl; (with_reducible repeat (first | refine blk_drewN ?_ _ | refine blk_drew ?_ | refine blk_alloc ?_ _)); exact BK290.out) Tryd.underlying46 rfl (by kernel_rfl)) rfl ?_
      exact ⟨by first | rfl | (simp [errW_none, errW_some] <;> rfl) | (simp [*, errW_none, errW_some] <;> rfl), by repeat (first | (with_reducible first | exact HB.out | apply below_alloc | apply pw_below_drewN | apply below_drew1 | refine below_set ?_ GE290.out) | exact HB.out)⟩
    · rw [if_neg c8] at H
      have c8b0 : decide (1099511627776 < t291) = false := decide_eq_false c8
      clear c8
      replace H := Option.bind_eq_some_iff.mp H
      obtain ⟨⟨t302, t303⟩, A110, H⟩ := H
      replace H : (if t303 = 0 then (if t302.toList = a0.toList then (some (wrap64 (t291), wrap64 (t293), wrap64 (t295), wrap64 (t297), wrap64 (t299), 0)) else (some (0, 0, 0, 0, 0, 4))) else (some (0, 0, 0, 0, 0, 4))) = some (r1, r2, r3, r4, r5, r6) := H
      have A11 := Aside0.mk A110
      clear A110
      by_cases c12 : t303 = 0
      · rw [if_pos c12] at H
        have c12b0 : (t303 == 0) = true := beq_iff_eq.mpr c12
        have c12b1 : (t303 != 0) = false := bne_eq_false_iff_eq.mpr c12
        clear c12
        by_cases c13 : t302.toList = a0.toList
        · rw [if_pos c13] at H
          have c13b0 : (t302.toList == a0.toList) = true := beq_iff_eq.mpr c13
          have c13b1 : (t302.toList != a0.toList) = false := bne_eq_false_iff_eq.mpr c13
          clear c13
          simp only [Option.some.injEq, Prod.mk.injEq] at H
          obtain ⟨rfl, rfl, rfl, rfl, rfl, rfl⟩ := H
          go_enter Tryd.func38, Tryd.ntmps38
          go_wp2_with (first | ((with_reducible refine gate_dst (N := 2) rfl ?_); refine box_event ?hg (N := 2) ?hd (cs := #[.int .i64 0, .int .i64 0, .int .i64 0, .int .i64 0, .int .i64 0]) (t := 46) ?hr ?_; (case hd => rfl); (case hg => rfl); (case hr => first | (go_simp; done) | (go_simp; rfl)); intro gb290 hg w14 hbox hb; have n0_ := Aside0.mk (below_step (by repeat (first | (with_reducible first | exact HB.out | apply below_alloc | apply pw_below_drewN | apply below_drew1) | exact HB.out)) hb); have n1_ := Aside0.mk (hbox); have n2_ := Aside0.mk ((by rw [hg]; exact (below_size (by repeat (first | (with_reducible first | exact HB.out | apply below_alloc | apply pw_below_drewN | apply below_drew1) | exact HB.out))) : w.heap.size ≤ gb290)); have n3_ := Aside0.mk ((by rw [hg]; exact (below_size (by repeat (first | (with_reducible first | exact HB.out | apply below_alloc | apply pw_below_drewN | apply below_drew1) | exact HB.out))) : w.heap.size ≤ gb290)); clear HB; have HB := n0_; have BK290 := n1_; have GW290 := n2_; have GE290 := n3_; clear n0_ n1_ n2_ n3_; clear hb hbox hg) | ((with_reducible refine gate_callee (f := 51) rfl ?_); refine goesL_ (some 23) rfl rfl Tryd.func51 (by kernel_rfl) rfl #[.string a0, .int .i64 8, .int .i64 8] rfl (by (try simp only [List.map_toArray, List.map_cons, List.map_nil]); first | done | rfl | (simp only [List.length_drop, List.length_take]; rfl)) ?_; (with_reducible refine (rollbookref01_Take.calls k a0 8 8 t291 t292 _ A3.out).mono ?_); rintro e w' ⟨rfl, ⟨nd, rfl⟩⟩; refine ⟨_, rfl, ?_⟩; (try (rw [drewN_self w14]; generalize hq_ : World.drewN w14 _ = w14; have n0_ : Aside0 (w14.heap[gb290]? = some (.cells #[.int .i64 0, .int .i64 0, .int .i64 0, .int .i64 0, .int .i64 0] 46 (0, 0))) := ⟨by rw [← hq_]; exact (by (with_reducible repeat (first | refine blk_drewN ?_ _ | refine blk_drew ?_ | refine blk_alloc ?_ _)); exact BK290.out)⟩; have n1_ : Aside0 (Below w.heap.size w w14) := ⟨by rw [← hq_]; exact (by repeat (first | (with_reducible first | exact HB.out | apply below_alloc | apply pw_below_drewN | apply below_drew1 | refine below_set ?_ GE290.out) | exact HB.out))⟩; clear BK290 HB hq_; have BK290 := n0_; have HB := n1_; clear n0_ n1_))) | ((with_reducible refine gate_callee (f := 51) rfl ?_); refine goesL_ (some 28) rfl rfl Tryd.func51 (by kernel_rfl) rfl #[.string a0, .int .i64 16, .int .i64 4] rfl (by (try simp only [List.map_toArray, List.map_cons, List.map_nil]); first | done | rfl | (simp only [List.length_drop, List.length_take]; rfl)) ?_; (with_reducible refine (rollbookref01_Take.calls k a0 16 4 t293 t294 _ A4.out).mono ?_); rintro e w' ⟨rfl, ⟨nd, rfl⟩⟩; refine ⟨_, rfl, ?_⟩; (try (rw [drewN_self w14]; generalize hq_ : World.drewN w14 _ = w14; have n0_ : Aside0 (w14.heap[gb290]? = some (.cells #[.int .i64 0, .int .i64 0, .int .i64 0, .int .i64 0, .int .i64 0] 46 (0, 0))) := ⟨by rw [← hq_]; exact (by (with_reducible repeat (first | refine blk_drewN ?_ _ | refine blk_drew ?_ | refine blk_alloc ?_ _)); exact BK290.out)⟩; have n1_ : Aside0 (Below w.heap.size w w14) := ⟨by rw [← hq_]; exact (by repeat (first | (with_reducible first | exact HB.out | apply below_alloc | apply pw_below_drewN | apply below_drew1 | refine below_set ?_ GE290.out) | exact HB.out))⟩; clear BK290 HB hq_; have BK290 := n0_; have HB := n1_; clear n0_ n1_))) | ((with_reducible refine gate_callee (f := 51) rfl ?_); refine goesL_ (some 33) rfl rfl Tryd.func51 (by kernel_rfl) rfl #[.string a0, .int .i64 20, .int .i64 4] rfl (by (try simp only [List.map_toArray, List.map_cons, List.map_nil]); first | done | rfl | (simp only [List.length_drop, List.length_take]; rfl)) ?_; (with_reducible refine (rollbookref01_Take.calls k a0 20 4 t295 t296 _ A5.out).mono ?_); rintro e w' ⟨rfl, ⟨nd, rfl⟩⟩; refine ⟨_, rfl, ?_⟩; (try (rw [drewN_self w14]; generalize hq_ : World.drewN w14 _ = w14; have n0_ : Aside0 (w14.heap[gb290]? = some (.cells #[.int .i64 0, .int .i64 0, .int .i64 0, .int .i64 0, .int .i64 0] 46 (0, 0))) := ⟨by rw [← hq_]; exact (by (with_reducible repeat (first | refine blk_drewN ?_ _ | refine blk_drew ?_ | refine blk_alloc ?_ _)); exact BK290.out)⟩; have n1_ : Aside0 (Below w.heap.size w w14) := ⟨by rw [← hq_]; exact (by repeat (first | (with_reducible first | exact HB.out | apply below_alloc | apply pw_below_drewN | apply below_drew1 | refine below_set ?_ GE290.out) | exact HB.out))⟩; clear BK290 HB hq_; have BK290 := n0_; have HB := n1_; clear n0_ n1_))) | ((with_reducible refine gate_callee (f := 51) rfl ?_); refine goesL_ (some 38) rfl rfl Tryd.func51 (by kernel_rfl) rfl #[.string a0, .int .i64 24, .int .i64 4] rfl (by (try simp only [List.map_toArray, List.map_cons, List.map_nil]); first | done | rfl | (simp only [List.length_drop, List.length_take]; rfl)) ?_; (with_reducible refine (rollbookref01_Take.calls k a0 24 4 t297 t298 _ A6.out).mono ?_); rintro e w' ⟨rfl, ⟨nd, rfl⟩⟩; refine ⟨_, rfl, ?_⟩; (try (rw [drewN_self w14]; generalize hq_ : World.drewN w14 _ = w14; have n0_ : Aside0 (w14.heap[gb290]? = some (.cells #[.int .i64 0, .int .i64 0, .int .i64 0, .int .i64 0, .int .i64 0] 46 (0, 0))) := ⟨by rw [← hq_]; exact (by (with_reducible repeat (first | refine blk_drewN ?_ _ | refine blk_drew ?_ | refine blk_alloc ?_ _)); exact BK290.out)⟩; have n1_ : Aside0 (Below w.heap.size w w14) := ⟨by rw [← hq_]; exact (by repeat (first | (with_reducible first | exact HB.out | apply below_alloc | apply pw_below_drewN | apply below_drew1 | refine below_set ?_ GE290.out) | exact HB.out))⟩; clear BK290 HB hq_; have BK290 := n0_; have HB := n1_; clear n0_ n1_))) | ((with_reducible refine gate_callee (f := 51) rfl ?_); refine goesL_ (some 43) rfl rfl Tryd.func51 (by kernel_rfl) rfl #[.string a0, .int .i64 28, .int .i64 4] rfl (by (try simp only [List.map_toArray, List.map_cons, List.map_nil]); first | done | rfl | (simp only [List.length_drop, List.length_take]; rfl)) ?_; (with_reducible refine (rollbookref01_Take.calls k a0 28 4 t299 t300 _ A7.out).mono ?_); rintro e w' ⟨rfl, ⟨nd, rfl⟩⟩; refine ⟨_, rfl, ?_⟩; (try (rw [drewN_self w14]; generalize hq_ : World.drewN w14 _ = w14; have n0_ : Aside0 (w14.heap[gb290]? = some (.cells #[.int .i64 0, .int .i64 0, .int .i64 0, .int .i64 0, .int .i64 0] 46 (0, 0))) := ⟨by rw [← hq_]; exact (by (with_reducible repeat (first | refine blk_drewN ?_ _ | refine blk_drew ?_ | refine blk_alloc ?_ _)); exact BK290.out)⟩; have n1_ : Aside0 (Below w.heap.size w w14) := ⟨by rw [← hq_]; exact (by repeat (first | (with_reducible first | exact HB.out | apply below_alloc | apply pw_below_drewN | apply below_drew1 | refine below_set ?_ GE290.out) | exact HB.out))⟩; clear BK290 HB hq_; have BK290 := n0_; have HB := n1_; clear n0_ n1_))) | ((with_reducible refine gate_dst (N := 14) rfl ?_); refine box_event ?hg (N := 14) ?hd (cs := #[.int .i64 0, .int .i64 0, .int .i64 0, .int .i64 0, .int .i64 0]) (t := 46) ?hr ?_; (case hd => rfl); (case hg => rfl); (case hr => first | (go_simp; done) | (go_simp; rfl)); intro gb301 hg w15 hbox hb; have n0_ := Aside0.mk (blk_below (g := gb290) (o := .cells #[.int .i64 0, .int .i64 0, .int .i64 0, .int .i64 0, .int .i64 0] 46 (0, 0)) (by (with_reducible repeat (first | refine blk_drewN ?_ _ | refine blk_drew ?_ | refine blk_alloc ?_ _)); exact BK290.out) hb); have n1_ := Aside0.mk (below_step (by repeat (first | (with_reducible first | exact HB.out | apply below_alloc | apply pw_below_drewN | apply below_drew1 | refine below_set ?_ GE290.out) | exact HB.out)) hb); have n2_ := Aside0.mk (hbox); have n3_ := Aside0.mk ((by rw [hg]; exact (below_size (by repeat (first | (with_reducible first | exact HB.out | apply below_alloc | apply pw_below_drewN | apply below_drew1 | refine below_set ?_ GE290.out) | exact HB.out))) : w.heap.size ≤ gb301)); have n4_ := Aside0.mk ((by rw [hg]; exact (below_size (by repeat (first | (with_reducible first | exact HB.out | apply below_alloc | apply pw_below_drewN | apply below_drew1 | refine below_set ?_ GE290.out) | exact HB.out))) : w.heap.size ≤ gb301)); have n5_ := Aside0.mk ((by rw [hg]; exact Nat.ne_of_lt (blk_lt (g := gb290) (o := .cells #[.int .i64 0, .int .i64 0, .int .i64 0, .int .i64 0, .int .i64 0] 46 (0, 0)) (by (with_reducible repeat (first | refine blk_drewN ?_ _ | refine blk_drew ?_ | refine blk_alloc ?_ _)); exact BK290.out)) : gb290 ≠ gb301)); have n6_ := Aside0.mk ((by rw [hg]; exact Nat.ne_of_gt (blk_lt (g := gb290) (o := .cells #[.int .i64 0, .int .i64 0, .int .i64 0, .int .i64 0, .int .i64 0] 46 (0, 0)) (by (with_reducible repeat (first | refine blk_drewN ?_ _ | refine blk_drew ?_ | refine blk_alloc ?_ _)); exact BK290.out)) : gb301 ≠ gb290)); clear BK290; clear HB; have BK290 := n0_; have HB := n1_; have BK301 := n2_; have GW301 := n3_; have GE301 := n4_; have NB290_301 := n5_; have NB301_290 := n6_; clear n0_ n1_ n2_ n3_ n4_ n5_ n6_; clear hb hbox hg; have hnb16 := NB301_290.out; have hnc16 := NB290_301.out; have hcz17_0 : w15.cell? ⟨gb301, 0, none⟩ = some (.int .i64 0) := (blk_cell BK301.out 0).trans rfl; have hcz17_1 : w15.cell? ⟨gb301, 1, none⟩ = some (.int .i64 0) := (blk_cell BK301.out 1).trans rfl; have hcz17_2 : w15.cell? ⟨gb301, 2, none⟩ = some (.int .i64 0) := (blk_cell BK301.out 2).trans rfl; have hcz17_3 : w15.cell? ⟨gb301, 3, none⟩ = some (.int .i64 0) := (blk_cell BK301.out 3).trans rfl; have hcz17_4 : w15.cell? ⟨gb301, 4, none⟩ = some (.int .i64 0) := (blk_cell BK301.out 4).trans rfl; have hfz17_0 := blk_frozen BK301.out 0; have hfz17_1 := blk_frozen BK301.out 1; have hfz17_2 := blk_frozen BK301.out 2; have hfz17_3 := blk_frozen BK301.out 3; have hfz17_4 := blk_frozen BK301.out 4) | ((with_reducible refine gate_callee (f := 40) rfl ?_); refine goesL_ (some 62) rfl rfl Tryd.func40 (by kernel_rfl) rfl #[.agg #[.int .i64 (wrap64 (t291)), .int .i64 (wrap64 (t293)), .int .i64 (wrap64 (t295)), .int .i64 (wrap64 (t297)), .int .i64 (wrap64 (t299))]] rfl (by (try simp only [List.map_toArray, List.map_cons, List.map_nil]); first | done | rfl | (simp only [List.length_drop, List.length_take]; rfl)) ?_; (with_reducible refine (rollbookref04_PackMeta.calls k (wrap64 (t291)) (wrap64 (t293)) (wrap64 (t295)) (wrap64 (t297)) (wrap64 (t299)) t302 t303 _ A11.out).mono ?_); rintro e w18 ⟨rfl, hb⟩; refine ⟨_, rfl, ?_⟩; have n0_ := Aside0.mk (blk_below (g := gb290) (o := .cells #[.int .i64 0, .int .i64 0, .int .i64 0, .int .i64 0, .int .i64 0] 46 (0, 0)) (by (with_reducible repeat (first | refine blk_drewN ?_ _ | refine blk_drew ?_ | refine blk_alloc ?_ _)); refine blk_far ?_ NB290_301.out _; (with_reducible repeat (first | refine blk_drewN ?_ _ | refine blk_drew ?_ | refine blk_alloc ?_ _)); refine blk_far ?_ NB290_301.out _; (with_reducible repeat (first | refine blk_drewN ?_ _ | refine blk_drew ?_ | refine blk_alloc ?_ _)); refine blk_far ?_ NB290_301.out _; (with_reducible repeat (first | refine blk_drewN ?_ _ | refine blk_drew ?_ | refine blk_alloc ?_ _)); refine blk_far ?_ NB290_301.out _; (with_reducible repeat (first | refine blk_drewN ?_ _ | refine blk_drew ?_ | refine blk_alloc ?_ _)); refine blk_far ?_ NB290_301.out _; (with_reducible repeat (first | refine blk_drewN ?_ _ | refine blk_drew ?_ | refine blk_alloc ?_ _)); exact BK290.out) hb); have n1_ := Aside0.mk (blk_below (g := gb301) (o := .cells #[.int .i64 (wrap64 (t291)), .int .i64 (wrap64 (t293)), .int .i64 (wrap64 (t295)), .int .i64 (wrap64 (t297)), .int .i64 (wrap64 (t299))] 46 (0, 0)) (by (with_reducible repeat (first | refine blk_drewN ?_ _ | refine blk_drew ?_ | refine blk_alloc ?_ _)); refine blk_put (cs := #[.int .i64 (wrap64 (t291)), .int .i64 (wrap64 (t293)), .int .i64 (wrap64 (t295)), .int .i64 (wrap64 (t297)), .int .i64 0]) ?_ 4 _ rfl; (with_reducible repeat (first | refine blk_drewN ?_ _ | refine blk_drew ?_ | refine blk_alloc ?_ _)); refine blk_put (cs := #[.int .i64 (wrap64 (t291)), .int .i64 (wrap64 (t293)), .int .i64 (wrap64 (t295)), .int .i64 0, .int .i64 0]) ?_ 3 _ rfl; (with_reducible repeat (first | refine blk_drewN ?_ _ | refine blk_drew ?_ | refine blk_alloc ?_ _)); refine blk_put (cs := #[.int .i64 (wrap64 (t291)), .int .i64 (wrap64 (t293)), .int .i64 0, .int .i64 0, .int .i64 0]) ?_ 2 _ rfl; (with_reducible repeat (first | refine blk_drewN ?_ _ | refine blk_drew ?_ | refine blk_alloc ?_ _)); refine blk_put (cs := #[.int .i64 (wrap64 (t291)), .int .i64 0, .int .i64 0, .int .i64 0, .int .i64 0]) ?_ 1 _ rfl; (with_reducible repeat (first | refine blk_drewN ?_ _ | refine blk_drew ?_ | refine blk_alloc ?_ _)); refine blk_put (cs := #[.int .i64 0, .int .i64 0, .int .i64 0, .int .i64 0, .int .i64 0]) ?_ 0 _ rfl; (with_reducible repeat (first | refine blk_drewN ?_ _ | refine blk_drew ?_ | refine blk_alloc ?_ _)); exact BK301.out) hb); have n2_ := Aside0.mk (below_step (by repeat (first | (with_reducible first | exact HB.out | apply below_alloc | apply pw_below_drewN | apply below_drew1 | refine below_set ?_ GE290.out | refine below_set ?_ GE301.out) | exact HB.out)) hb); clear BK290; clear BK301; clear HB; have BK290 := n0_; have BK301 := n1_; have HB := n2_; clear n0_ n1_ n2_; (try clear hb); (try clear hb2); (try clear hk); (try clear hi); have hcz19_0 : w18.cell? ⟨gb301, 0, none⟩ = some (.int .i64 (wrap64 (t291))) := (blk_cell BK301.out 0).trans rfl; have hcz19_1 : w18.cell? ⟨gb301, 1, none⟩ = some (.int .i64 (wrap64 (t293))) := (blk_cell BK301.out 1).trans rfl; have hcz19_2 : w18.cell? ⟨gb301, 2, none⟩ = some (.int .i64 (wrap64 (t295))) := (blk_cell BK301.out 2).trans rfl; have hcz19_3 : w18.cell? ⟨gb301, 3, none⟩ = some (.int .i64 (wrap64 (t297))) := (blk_cell BK301.out 3).trans rfl; have hcz19_4 : w18.cell? ⟨gb301, 4, none⟩ = some (.int .i64 (wrap64 (t299))) := (blk_cell BK301.out 4).trans rfl; have hfz19_0 := blk_frozen BK301.out 0; have hfz19_1 := blk_frozen BK301.out 1; have hfz19_2 := blk_frozen BK301.out 2; have hfz19_3 := blk_frozen BK301.out 3; have hfz19_4 := blk_frozen BK301.out 4; have hcz20_0 : w18.cell? ⟨gb290, 0, none⟩ = some (.int .i64 0) := (blk_cell BK290.out 0).trans rfl; have hcz20_1 : w18.cell? ⟨gb290, 1, none⟩ = some (.int .i64 0) := (blk_cell BK290.out 1).trans rfl; have hcz20_2 : w18.cell? ⟨gb290, 2, none⟩ = some (.int .i64 0) := (blk_cell BK290.out 2).trans rfl; have hcz20_3 : w18.cell? ⟨gb290, 3, none⟩ = some (.int .i64 0) := (blk_cell BK290.out 3).trans rfl; have hcz20_4 : w18.cell? ⟨gb290, 4, none⟩ = some (.int .i64 0) := (blk_cell BK290.out 4).trans rfl; have hfz20_0 := blk_frozen BK290.out 0; have hfz20_1 := blk_frozen BK290.out 1; have hfz20_2 := blk_frozen BK290.out 2; have hfz20_3 := blk_frozen BK290.out 3; have hfz20_4 := blk_frozen BK290.out 4))
          refine bodyPost_ret (results_ct rfl _ _ gb290 46 #[.int .i64 (wrap64 (t291)), .int .i64 (wrap64 (t293)), .int .i64 (wrap64 (t295)), .int .i64 (wrap64 (t297)), .int .i64 (wrap64 (t299))] (0, 0) _ rfl (by (with_reducible repeat (first | refine blk_drewN ?_ _ | refine blk_drew ?_ | refine blk_alloc ?_ _)); refine blk_put (cs := #[.int .i64 (wrap64 (t291)), .int .i64 (wrap64 (t293)), .int .i64 (wrap64 (t295)), .int .i64 (wrap64 (t297)), .int .i64 0]) ?_ 4 _ rfl; (with_reducible repeat (first | refine blk_drewN ?_ _ | refine blk_drew ?_ | refine blk_alloc ?_ _)); refine blk_put (cs := #[.int .i64 (wrap64 (t291)), .int .i64 (wrap64 (t293)), .int .i64 (wrap64 (t295)), .int .i64 0, .int .i64 0]) ?_ 3 _ rfl; (with_reducible repeat (first | refine blk_drewN ?_ _ | refine blk_drew ?_ | refine blk_alloc ?_ _)); refine blk_put (cs := #[.int .i64 (wrap64 (t291)), .int .i64 (wrap64 (t293)), .int .i64 0, .int .i64 0, .int .i64 0]) ?_ 2 _ rfl; (with_reducible repeat (first | refine blk_drewN ?_ _ | refine blk_drew ?_ | refine blk_alloc ?_ _)); refine blk_put (cs := #[.int .i64 (wrap64 (t291)), .int .i64 0, .int .i64 0, .int .i64 0, .int .i64 0]) ?_ 1 _ rfl; (with_reducible repeat (first | refine blk_drewN ?_ _ | refine blk_drew ?_ | refine blk_alloc ?_ _)); refine blk_put (cs := #[.int .i64 0, .int .i64 0, .int .i64 0, .int .i64 0, .int .i64 0]) ?_ 0 _ rfl; (with_reducible repeat (first | refine blk_drewN ?_ _ | refine blk_drew ?_ | refine blk_alloc ?_ _)); exact BK290.out) Tryd.underlying46 rfl (by kernel_rfl)) rfl ?_
          exact ⟨by first | rfl | (simp [errW_none, errW_some] <;> rfl) | (simp [*, errW_none, errW_some] <;> rfl), by repeat (first | (with_reducible first | exact HB.out | apply below_alloc | apply pw_below_drewN | apply below_drew1 | refine below_set ?_ GE290.out | refine below_set ?_ GE301.out) | exact HB.out)⟩
        · rw [if_neg c13] at H
          have c13b0 : (t302.toList == a0.toList) = false := beq_eq_false_iff_ne.mpr c13
          have c13b1 : (t302.toList != a0.toList) = true := bne_iff_ne.mpr c13
          simp only [Option.some.injEq, Prod.mk.injEq] at H
          obtain ⟨rfl, rfl, rfl, rfl, rfl, rfl⟩ := H
          go_enter Tryd.func38, Tryd.ntmps38
          go_wp2_with (first | ((with_reducible refine gate_dst (N := 2) rfl ?_); refine box_event ?hg (N := 2) ?hd (cs := #[.int .i64 0, .int .i64 0, .int .i64 0, .int .i64 0, .int .i64 0]) (t := 46) ?hr ?_; (case hd => rfl); (case hg => rfl); (case hr => first | (go_simp; done) | (go_simp; rfl)); intro gb290 hg w21 hbox hb; have n0_ := Aside0.mk (below_step (by repeat (first | (with_reducible first | exact HB.out | apply below_alloc | apply pw_below_drewN | apply below_drew1) | exact HB.out)) hb); have n1_ := Aside0.mk (hbox); have n2_ := Aside0.mk ((by rw [hg]; exact (below_size (by repeat (first | (with_reducible first | exact HB.out | apply below_alloc | apply pw_below_drewN | apply below_drew1) | exact HB.out))) : w.heap.size ≤ gb290)); have n3_ := Aside0.mk ((by rw [hg]; exact (below_size (by repeat (first | (with_reducible first | exact HB.out | apply below_alloc | apply pw_below_drewN | apply below_drew1) | exact HB.out))) : w.heap.size ≤ gb290)); clear HB; have HB := n0_; have BK290 := n1_; have GW290 := n2_; have GE290 := n3_; clear n0_ n1_ n2_ n3_; clear hb hbox hg) | ((with_reducible refine gate_callee (f := 51) rfl ?_); refine goesL_ (some 23) rfl rfl Tryd.func51 (by kernel_rfl) rfl #[.string a0, .int .i64 8, .int .i64 8] rfl (by (try simp only [List.map_toArray, List.map_cons, List.map_nil]); first | done | rfl | (simp only [List.length_drop, List.length_take]; rfl)) ?_; (with_reducible refine (rollbookref01_Take.calls k a0 8 8 t291 t292 _ A3.out).mono ?_); rintro e w' ⟨rfl, ⟨nd, rfl⟩⟩; refine ⟨_, rfl, ?_⟩; (try (rw [drewN_self w21]; generalize hq_ : World.drewN w21 _ = w21; have n0_ : Aside0 (w21.heap[gb290]? = some (.cells #[.int .i64 0, .int .i64 0, .int .i64 0, .int .i64 0, .int .i64 0] 46 (0, 0))) := ⟨by rw [← hq_]; exact (by (with_reducible repeat (first | refine blk_drewN ?_ _ | refine blk_drew ?_ | refine blk_alloc ?_ _)); exact BK290.out)⟩; have n1_ : Aside0 (Below w.heap.size w w21) := ⟨by rw [← hq_]; exact (by repeat (first | (with_reducible first | exact HB.out | apply below_alloc | apply pw_below_drewN | apply below_drew1 | refine below_set ?_ GE290.out) | exact HB.out))⟩; clear BK290 HB hq_; have BK290 := n0_; have HB := n1_; clear n0_ n1_))) | ((with_reducible refine gate_callee (f := 51) rfl ?_); refine goesL_ (some 28) rfl rfl Tryd.func51 (by kernel_rfl) rfl #[.string a0, .int .i64 16, .int .i64 4] rfl (by (try simp only [List.map_toArray, List.map_cons, List.map_nil]); first | done | rfl | (simp only [List.length_drop, List.length_take]; rfl)) ?_; (with_reducible refine (rollbookref01_Take.calls k a0 16 4 t293 t294 _ A4.out).mono ?_); rintro e w' ⟨rfl, ⟨nd, rfl⟩⟩; refine ⟨_, rfl, ?_⟩; (try (rw [drewN_self w21]; generalize hq_ : World.drewN w21 _ = w21; have n0_ : Aside0 (w21.heap[gb290]? = some (.cells #[.int .i64 0, .int .i64 0, .int .i64 0, .int .i64 0, .int .i64 0] 46 (0, 0))) := ⟨by rw [← hq_]; exact (by (with_reducible repeat (first | refine blk_drewN ?_ _ | refine blk_drew ?_ | refine blk_alloc ?_ _)); exact BK290.out)⟩; have n1_ : Aside0 (Below w.heap.size w w21) := ⟨by rw [← hq_]; exact (by repeat (first | (with_reducible first | exact HB.out | apply below_alloc | apply pw_below_drewN | apply below_drew1 | refine below_set ?_ GE290.out) | exact HB.out))⟩; clear BK290 HB hq_; have BK290 := n0_; have HB := n1_; clear n0_ n1_))) | ((with_reducible refine gate_callee (f := 51) rfl ?_); refine goesL_ (some 33) rfl rfl Tryd.func51 (by kernel_rfl) rfl #[.string a0, .int .i64 20, .int .i64 4] rfl (by (try simp only [List.map_toArray, List.map_cons, List.map_nil]); first | done | rfl | (simp only [List.length_drop, List.length_take]; rfl)) ?_; (with_reducible refine (rollbookref01_Take.calls k a0 20 4 t295 t296 _ A5.out).mono ?_); rintro e w' ⟨rfl, ⟨nd, rfl⟩⟩; refine ⟨_, rfl, ?_⟩; (try (rw [drewN_self w21]; generalize hq_ : World.drewN w21 _ = w21; have n0_ : Aside0 (w21.heap[gb290]? = some (.cells #[.int .i64 0, .int .i64 0, .int .i64 0, .int .i64 0, .int .i64 0] 46 (0, 0))) := ⟨by rw [← hq_]; exact (by (with_reducible repeat (first | refine blk_drewN ?_ _ | refine blk_drew ?_ | refine blk_alloc ?_ _)); exact BK290.out)⟩; have n1_ : Aside0 (Below w.heap.size w w21) := ⟨by rw [← hq_]; exact (by repeat (first | (with_reducible first | exact HB.out | apply below_alloc | apply pw_below_drewN | apply below_drew1 | refine below_set ?_ GE290.out) | exact HB.out))⟩; clear BK290 HB hq_; have BK290 := n0_; have HB := n1_; clear n0_ n1_))) | ((with_reducible refine gate_callee (f := 51) rfl ?_); refine goesL_ (some 38) rfl rfl Tryd.func51 (by kernel_rfl) rfl #[.string a0, .int .i64 24, .int .i64 4] rfl (by (try simp only [List.map_toArray, List.map_cons, List.map_nil]); first | done | rfl | (simp only [List.length_drop, List.length_take]; rfl)) ?_; (with_reducible refine (rollbookref01_Take.calls k a0 24 4 t297 t298 _ A6.out).mono ?_); rintro e w' ⟨rfl, ⟨nd, rfl⟩⟩; refine ⟨_, rfl, ?_⟩; (try (rw [drewN_self w21]; generalize hq_ : World.drewN w21 _ = w21; have n0_ : Aside0 (w21.heap[gb290]? = some (.cells #[.int .i64 0, .int .i64 0, .int .i64 0, .int .i64 0, .int .i64 0] 46 (0, 0))) := ⟨by rw [← hq_]; exact (by (with_reducible repeat (first | refine blk_drewN ?_ _ | refine blk_drew ?_ | refine blk_alloc ?_ _)); exact BK290.out)⟩; have n1_ : Aside0 (Below w.heap.size w w21) := ⟨by rw [← hq_]; exact (by repeat (first | (with_reducible first | exact HB.out | apply below_alloc | apply pw_below_drewN | apply below_drew1 | refine below_set ?_ GE290.out) | exact HB.out))⟩; clear BK290 HB hq_; have BK290 := n0_; have HB := n1_; clear n0_ n1_))) | ((with_reducible refine gate_callee (f := 51) rfl ?_); refine goesL_ (some 43) rfl rfl Tryd.func51 (by kernel_rfl) rfl #[.string a0, .int .i64 28, .int .i64 4] rfl (by (try simp only [List.map_toArray, List.map_cons, List.map_nil]); first | done | rfl | (simp only [List.length_drop, List.length_take]; rfl)) ?_; (with_reducible refine (rollbookref01_Take.calls k a0 28 4 t299 t300 _ A7.out).mono ?_); rintro e w' ⟨rfl, ⟨nd, rfl⟩⟩; refine ⟨_, rfl, ?_⟩; (try (rw [drewN_self w21]; generalize hq_ : World.drewN w21 _ = w21; have n0_ : Aside0 (w21.heap[gb290]? = some (.cells #[.int .i64 0, .int .i64 0, .int .i64 0, .int .i64 0, .int .i64 0] 46 (0, 0))) := ⟨by rw [← hq_]; exact (by (with_reducible repeat (first | refine blk_drewN ?_ _ | refine blk_drew ?_ | refine blk_alloc ?_ _)); exact BK290.out)⟩; have n1_ : Aside0 (Below w.heap.size w w21) := ⟨by rw [← hq_]; exact (by repeat (first | (with_reducible first | exact HB.out | apply below_alloc | apply pw_below_drewN | apply below_drew1 | refine below_set ?_ GE290.out) | exact HB.out))⟩; clear BK290 HB hq_; have BK290 := n0_; have HB := n1_; clear n0_ n1_))) | ((with_reducible refine gate_dst (N := 14) rfl ?_); refine box_event ?hg (N := 14) ?hd (cs := #[.int .i64 0, .int .i64 0, .int .i64 0, .int .i64 0, .int .i64 0]) (t := 46) ?hr ?_; (case hd => rfl); (case hg => rfl); (case hr => first | (go_simp; done) | (go_simp; rfl)); intro gb301 hg w22 hbox hb; have n0_ := Aside0.mk (blk_below (g := gb290) (o := .cells #[.int .i64 0, .int .i64 0, .int .i64 0, .int .i64 0, .int .i64 0] 46 (0, 0)) (by (with_reducible repeat (first | refine blk_drewN ?_ _ | refine blk_drew ?_ | refine blk_alloc ?_ _)); exact BK290.out) hb); have n1_ := Aside0.mk (below_step (by repeat (first | (with_reducible first | exact HB.out | apply below_alloc | apply pw_below_drewN | apply below_drew1 | refine below_set ?_ GE290.out) | exact HB.out)) hb); have n2_ := Aside0.mk (hbox); have n3_ := Aside0.mk ((by rw [hg]; exact (below_size (by repeat (first | (with_reducible first | exact HB.out | apply below_alloc | apply pw_below_drewN | apply below_drew1 | refine below_set ?_ GE290.out) | exact HB.out))) : w.heap.size ≤ gb301)); have n4_ := Aside0.mk ((by rw [hg]; exact (below_size (by repeat (first | (with_reducible first | exact HB.out | apply below_alloc | apply pw_below_drewN | apply below_drew1 | refine below_set ?_ GE290.out) | exact HB.out))) : w.heap.size ≤ gb301)); have n5_ := Aside0.mk ((by rw [hg]; exact Nat.ne_of_lt (blk_lt (g := gb290) (o := .cells #[.int .i64 0, .int .i64 0, .int .i64 0, .int .i64 0, .int .i64 0] 46 (0, 0)) (by (with_reducible repeat (first | refine blk_drewN ?_ _ | refine blk_drew ?_ | refine blk_alloc ?_ _)); exact BK290.out)) : gb290 ≠ gb301)); have n6_ := Aside0.mk ((by rw [hg]; exact Nat.ne_of_gt (blk_lt (g := gb290) (o := .cells #[.int .i64 0, .int .i64 0, .int .i64 0, .int .i64 0, .int .i64 0] 46 (0, 0)) (by (with_reducible repeat (first | refine blk_drewN ?_ _ | refine blk_drew ?_ | refine blk_alloc ?_ _)); exact BK290.out)) : gb301 ≠ gb290)); clear BK290; clear HB; have BK290 := n0_; have HB := n1_; have BK301 := n2_; have GW301 := n3_; have GE301 := n4_; have NB290_301 := n5_; have NB301_290 := n6_; clear n0_ n1_ n2_ n3_ n4_ n5_ n6_; clear hb hbox hg; have hnb23 := NB301_290.out; have hnc23 := NB290_301.out; have hcz24_0 : w22.cell? ⟨gb301, 0, none⟩ = some (.int .i64 0) := (blk_cell BK301.out 0).trans rfl; have hcz24_1 : w22.cell? ⟨gb301, 1, none⟩ = some (.int .i64 0) := (blk_cell BK301.out 1).trans rfl; have hcz24_2 : w22.cell? ⟨gb301, 2, none⟩ = some (.int .i64 0) := (blk_cell BK301.out 2).trans rfl; have hcz24_3 : w22.cell? ⟨gb301, 3, none⟩ = some (.int .i64 0) := (blk_cell BK301.out 3).trans rfl; have hcz24_4 : w22.cell? ⟨gb301, 4, none⟩ = some (.int .i64 0) := (blk_cell BK301.out 4).trans rfl; have hfz24_0 := blk_frozen BK301.out 0; have hfz24_1 := blk_frozen BK301.out 1; have hfz24_2 := blk_frozen BK301.out 2; have hfz24_3 := blk_frozen BK301.out 3; have hfz24_4 := blk_frozen BK301.out 4) | ((with_reducible refine gate_callee (f := 40) rfl ?_); refine goesL_ (some 62) rfl rfl Tryd.func40 (by kernel_rfl) rfl #[.agg #[.int .i64 (wrap64 (t291)), .int .i64 (wrap64 (t293)), .int .i64 (wrap64 (t295)), .int .i64 (wrap64 (t297)), .int .i64 (wrap64 (t299))]] rfl (by (try simp only [List.map_toArray, List.map_cons, List.map_nil]); first | done | rfl | (simp only [List.length_drop, List.length_take]; rfl)) ?_; (with_reducible refine (rollbookref04_PackMeta.calls k (wrap64 (t291)) (wrap64 (t293)) (wrap64 (t295)) (wrap64 (t297)) (wrap64 (t299)) t302 t303 _ A11.out).mono ?_); rintro e w25 ⟨rfl, hb⟩; refine ⟨_, rfl, ?_⟩; have n0_ := Aside0.mk (blk_below (g := gb290) (o := .cells #[.int .i64 0, .int .i64 0, .int .i64 0, .int .i64 0, .int .i64 0] 46 (0, 0)) (by (with_reducible repeat (first | refine blk_drewN ?_ _ | refine blk_drew ?_ | refine blk_alloc ?_ _)); refine blk_far ?_ NB290_301.out _; (with_reducible repeat (first | refine blk_drewN ?_ _ | refine blk_drew ?_ | refine blk_alloc ?_ _)); refine blk_far ?_ NB290_301.out _; (with_reducible repeat (first | refine blk_drewN ?_ _ | refine blk_drew ?_ | refine blk_alloc ?_ _)); refine blk_far ?_ NB290_301.out _; (with_reducible repeat (first | refine blk_drewN ?_ _ | refine blk_drew ?_ | refine blk_alloc ?_ _)); refine blk_far ?_ NB290_301.out _; (with_reducible repeat (first | refine blk_drewN ?_ _ | refine blk_drew ?_ | refine blk_alloc ?_ _)); refine blk_far ?_ NB290_301.out _; (with_reducible repeat (first | refine blk_drewN ?_ _ | refine blk_drew ?_ | refine blk_alloc ?_ _)); exact BK290.out) hb); have n1_ := Aside0.mk (blk_below (g := gb301) (o := .cells #[.int .i64 (wrap64 (t291)), .int .i64 (wrap64 (t293)), .int .i64 (wrap64 (t295)), .int .i64 (wrap64 (t297)), .int .i64 (wrap64 (t299))] 46 (0, 0)) (by (with_reducible repeat (first | refine blk_drewN ?_ _ | refine blk_drew ?_ | refine blk_alloc ?_ _)); refine blk_put (cs := #[.int .i64 (wrap64 (t291)), .int .i64 (wrap64 (t293)), .int .i64 (wrap64 (t295)), .int .i64 (wrap64 (t297)), .int .i64 0]) ?_ 4 _ rfl; (with_reducible repeat (first | refine blk_drewN ?_ _ | refine blk_drew ?_ | refine blk_alloc ?_ _)); refine blk_put (cs := #[.int .i64 (wrap64 (t291)), .int .i64 (wrap64 (t293)), .int .i64 (wrap64 (t295)), .int .i64 0, .int .i64 0]) ?_ 3 _ rfl; (with_reducible repeat (first | refine blk_drewN ?_ _ | refine blk_drew ?_ | refine blk_alloc ?_ _)); refine blk_put (cs := #[.int .i64 (wrap64 (t291)), .int .i64 (wrap64 (t293)), .int .i64 0, .int .i64 0, .int .i64 0]) ?_ 2 _ rfl; (with_reducible repeat (first | refine blk_drewN ?_ _ | refine blk_drew ?_ | refine blk_alloc ?_ _)); refine blk_put (cs := #[.int .i64 (wrap64 (t291)), .int .i64 0, .int .i64 0, .int .i64 0, .int .i64 0]) ?_ 1 _ rfl; (with_reducible repeat (first | refine blk_drewN ?_ _ | refine blk_drew ?_ | refine blk_alloc ?_ _)); refine blk_put (cs := #[.int .i64 0, .int .i64 0, .int .i64 0, .int .i64 0, .int .i64 0]) ?_ 0 _ rfl; (with_reducible repeat (first | refine blk_drewN ?_ _ | refine blk_drew ?_ | refine blk_alloc ?_ _)); exact BK301.out) hb); have n2_ := Aside0.mk (below_step (by repeat (first | (with_reducible first | exact HB.out | apply below_alloc | apply pw_below_drewN | apply below_drew1 | refine below_set ?_ GE290.out | refine below_set ?_ GE301.out) | exact HB.out)) hb); clear BK290; clear BK301; clear HB; have BK290 := n0_; have BK301 := n1_; have HB := n2_; clear n0_ n1_ n2_; (try clear hb); (try clear hb2); (try clear hk); (try clear hi); have hcz26_0 : w25.cell? ⟨gb290, 0, none⟩ = some (.int .i64 0) := (blk_cell BK290.out 0).trans rfl; have hcz26_1 : w25.cell? ⟨gb290, 1, none⟩ = some (.int .i64 0) := (blk_cell BK290.out 1).trans rfl; have hcz26_2 : w25.cell? ⟨gb290, 2, none⟩ = some (.int .i64 0) := (blk_cell BK290.out 2).trans rfl; have hcz26_3 : w25.cell? ⟨gb290, 3, none⟩ = some (.int .i64 0) := (blk_cell BK290.out 3).trans rfl; have hcz26_4 : w25.cell? ⟨gb290, 4, none⟩ = some (.int .i64 0) := (blk_cell BK290.out 4).trans rfl; have hfz26_0 := blk_frozen BK290.out 0; have hfz26_1 := blk_frozen BK290.out 1; have hfz26_2 := blk_frozen BK290.out 2; have hfz26_3 := blk_frozen BK290.out 3; have hfz26_4 := blk_frozen BK290.out 4))
          refine bodyPost_ret (results_ct rfl _ _ gb290 46 #[.int .i64 0, .int .i64 0, .int .i64 0, .int .i64 0, .int .i64 0] (0, 0) _ rfl (by (with_reducible repeat (first | refine blk_drewN ?_ _ | refine blk_drew ?_ | refine blk_alloc ?_ _)); refine blk_put (cs := #[.int .i64 0, .int .i64 0, .int .i64 0, .int .i64 0, .int .i64 0]) ?_ 4 _ rfl; (with_reducible repeat (first | refine blk_drewN ?_ _ | refine blk_drew ?_ | refine blk_alloc ?_ _)); refine blk_put (cs := #[.int .i64 0, .int .i64 0, .int .i64 0, .int .i64 0, .int .i64 0]) ?_ 3 _ rfl; (with_reducible repeat (first | refine blk_drewN ?_ _ | refine blk_drew ?_ | refine blk_alloc ?_ _)); refine blk_put (cs := #[.int .i64 0, .int .i64 0, .int .i64 0, .int .i64 0, .int .i64 0]) ?_ 2 _ rfl; (with_reducible repeat (first | refine blk_drewN ?_ _ | refine blk_drew ?_ | refine blk_alloc ?_ _)); refine blk_put (cs := #[.int .i64 0, .int .i64 0, .int .i64 0, .int .i64 0, .int .i64 0]) ?_ 1 _ rfl; (with_reducible repeat (first | refine blk_drewN ?_ _ | refine blk_drew ?_ | refine blk_alloc ?_ _)); refine blk_put (cs := #[.int .i64 0, .int .i64 0, .int .i64 0, .int .i64 0, .int .i64 0]) ?_ 0 _ rfl; (with_reducible repeat (first | refine blk_drewN ?_ _ | refine blk_drew ?_ | refine blk_alloc ?_ _)); exact BK290.out) Tryd.underlying46 rfl (by kernel_rfl)) rfl ?_
          exact ⟨by first | rfl | (simp [errW_none, errW_some] <;> rfl) | (simp [*, errW_none, errW_some] <;> rfl), by repeat (first | (with_reducible first | exact HB.out | apply below_alloc | apply pw_below_drewN | apply below_drew1 | refine below_set ?_ GE290.out | refine below_set ?_ GE301.out) | exact HB.out)⟩
      · rw [if_neg c12] at H
        have c12b0 : (t303 == 0) = false := beq_eq_false_iff_ne.mpr c12
        have c12b1 : (t303 != 0) = true := bne_iff_ne.mpr c12
        simp only [Option.some.injEq, Prod.mk.injEq] at H
        obtain ⟨rfl, rfl, rfl, rfl, rfl, rfl⟩ := H
        go_enter Tryd.func38, Tryd.ntmps38
        go_wp2_with (first | ((with_reducible refine gate_dst (N := 2) rfl ?_); refine box_event ?hg (N := 2) ?hd (cs := #[.int .i64 0, .int .i64 0, .int .i64 0, .int .i64 0, .int .i64 0]) (t := 46) ?hr ?_; (case hd => rfl); (case hg => rfl); (case hr => first | (go_simp; done) | (go_simp; rfl)); intro gb290 hg w27 hbox hb; have n0_ := Aside0.mk (below_step (by repeat (first | (with_reducible first | exact HB.out | apply below_alloc | apply pw_below_drewN | apply below_drew1) | exact HB.out)) hb); have n1_ := Aside0.mk (hbox); have n2_ := Aside0.mk ((by rw [hg]; exact (below_size (by repeat (first | (with_reducible first | exact HB.out | apply below_alloc | apply pw_below_drewN | apply below_drew1) | exact HB.out))) : w.heap.size ≤ gb290)); have n3_ := Aside0.mk ((by rw [hg]; exact (below_size (by repeat (first | (with_reducible first | exact HB.out | apply below_alloc | apply pw_below_drewN | apply below_drew1) | exact HB.out))) : w.heap.size ≤ gb290)); clear HB; have HB := n0_; have BK290 := n1_; have GW290 := n2_; have GE290 := n3_; clear n0_ n1_ n2_ n3_; clear hb hbox hg) | ((with_reducible refine gate_callee (f := 51) rfl ?_); refine goesL_ (some 23) rfl rfl Tryd.func51 (by kernel_rfl) rfl #[.string a0, .int .i64 8, .int .i64 8] rfl (by (try simp only [List.map_toArray, List.map_cons, List.map_nil]); first | done | rfl | (simp only [List.length_drop, List.length_take]; rfl)) ?_; (with_reducible refine (rollbookref01_Take.calls k a0 8 8 t291 t292 _ A3.out).mono ?_); rintro e w' ⟨rfl, ⟨nd, rfl⟩⟩; refine ⟨_, rfl, ?_⟩; (try (rw [drewN_self w27]; generalize hq_ : World.drewN w27 _ = w27; have n0_ : Aside0 (w27.heap[gb290]? = some (.cells #[.int .i64 0, .int .i64 0, .int .i64 0, .int .i64 0, .int .i64 0] 46 (0, 0))) := ⟨by rw [← hq_]; exact (by (with_reducible repeat (first | refine blk_drewN ?_ _ | refine blk_drew ?_ | refine blk_alloc ?_ _)); exact BK290.out)⟩; have n1_ : Aside0 (Below w.heap.size w w27) := ⟨by rw [← hq_]; exact (by repeat (first | (with_reducible first | exact HB.out | apply below_alloc | apply pw_below_drewN | apply below_drew1 | refine below_set ?_ GE290.out) | exact HB.out))⟩; clear BK290 HB hq_; have BK290 := n0_; have HB := n1_; clear n0_ n1_))) | ((with_reducible refine gate_callee (f := 51) rfl ?_); refine goesL_ (some 28) rfl rfl Tryd.func51 (by kernel_rfl) rfl #[.string a0, .int .i64 16, .int .i64 4] rfl (by (try simp only [List.map_toArray, List.map_cons, List.map_nil]); first | done | rfl | (simp only [List.length_drop, List.length_take]; rfl)) ?_; (with_reducible refine (rollbookref01_Take.calls k a0 16 4 t293 t294 _ A4.out).mono ?_); rintro e w' ⟨rfl, ⟨nd, rfl⟩⟩; refine ⟨_, rfl, ?_⟩; (try (rw [drewN_self w27]; generalize hq_ : World.drewN w27 _ = w27; have n0_ : Aside0 (w27.heap[gb290]? = some (.cells #[.int .i64 0, .int .i64 0, .int .i64 0, .int .i64 0, .int .i64 0] 46 (0, 0))) := ⟨by rw [← hq_]; exact (by (with_reducible repeat (first | refine blk_drewN ?_ _ | refine blk_drew ?_ | refine blk_alloc ?_ _)); exact BK290.out)⟩; have n1_ : Aside0 (Below w.heap.size w w27) := ⟨by rw [← hq_]; exact (by repeat (first | (with_reducible first | exact HB.out | apply below_alloc | apply pw_below_drewN | apply below_drew1 | refine below_set ?_ GE290.out) | exact HB.out))⟩; clear BK290 HB hq_; have BK290 := n0_; have HB := n1_; clear n0_ n1_))) | ((with_reducible refine gate_callee (f := 51) rfl ?_); refine goesL_ (some 33) rfl rfl Tryd.func51 (by kernel_rfl) rfl #[.string a0, .int .i64 20, .int .i64 4] rfl (by (try simp only [List.map_toArray, List.map_cons, List.map_nil]); first | done | rfl | (simp only [List.length_drop, List.length_take]; rfl)) ?_; (with_reducible refine (rollbookref01_Take.calls k a0 20 4 t295 t296 _ A5.out).mono ?_); rintro e w' ⟨rfl, ⟨nd, rfl⟩⟩; refine ⟨_, rfl, ?_⟩; (try (rw [drewN_self w27]; generalize hq_ : World.drewN w27 _ = w27; have n0_ : Aside0 (w27.heap[gb290]? = some (.cells #[.int .i64 0, .int .i64 0, .int .i64 0, .int .i64 0, .int .i64 0] 46 (0, 0))) := ⟨by rw [← hq_]; exact (by (with_reducible repeat (first | refine blk_drewN ?_ _ | refine blk_drew ?_ | refine blk_alloc ?_ _)); exact BK290.out)⟩; have n1_ : Aside0 (Below w.heap.size w w27) := ⟨by rw [← hq_]; exact (by repeat (first | (with_reducible first | exact HB.out | apply below_alloc | apply pw_below_drewN | apply below_drew1 | refine below_set ?_ GE290.out) | exact HB.out))⟩; clear BK290 HB hq_; have BK290 := n0_; have HB := n1_; clear n0_ n1_))) | ((with_reducible refine gate_callee (f := 51) rfl ?_); refine goesL_ (some 38) rfl rfl Tryd.func51 (by kernel_rfl) rfl #[.string a0, .int .i64 24, .int .i64 4] rfl (by (try simp only [List.map_toArray, List.map_cons, List.map_nil]); first | done | rfl | (simp only [List.length_drop, List.length_take]; rfl)) ?_; (with_reducible refine (rollbookref01_Take.calls k a0 24 4 t297 t298 _ A6.out).mono ?_); rintro e w' ⟨rfl, ⟨nd, rfl⟩⟩; refine ⟨_, rfl, ?_⟩; (try (rw [drewN_self w27]; generalize hq_ : World.drewN w27 _ = w27; have n0_ : Aside0 (w27.heap[gb290]? = some (.cells #[.int .i64 0, .int .i64 0, .int .i64 0, .int .i64 0, .int .i64 0] 46 (0, 0))) := ⟨by rw [← hq_]; exact (by (with_reducible repeat (first | refine blk_drewN ?_ _ | refine blk_drew ?_ | refine blk_alloc ?_ _)); exact BK290.out)⟩; have n1_ : Aside0 (Below w.heap.size w w27) := ⟨by rw [← hq_]; exact (by repeat (first | (with_reducible first | exact HB.out | apply below_alloc | apply pw_below_drewN | apply below_drew1 | refine below_set ?_ GE290.out) | exact HB.out))⟩; clear BK290 HB hq_; have BK290 := n0_; have HB := n1_; clear n0_ n1_))) | ((with_reducible refine gate_callee (f := 51) rfl ?_); refine goesL_ (some 43) rfl rfl Tryd.func51 (by kernel_rfl) rfl #[.string a0, .int .i64 28, .int .i64 4] rfl (by (try simp only [List.map_toArray, List.map_cons, List.map_nil]); first | done | rfl | (simp only [List.length_drop, List.length_take]; rfl)) ?_; (with_reducible refine (rollbookref01_Take.calls k a0 28 4 t299 t300 _ A7.out).mono ?_); rintro e w' ⟨rfl, ⟨nd, rfl⟩⟩; refine ⟨_, rfl, ?_⟩; (try (rw [drewN_self w27]; generalize hq_ : World.drewN w27 _ = w27; have n0_ : Aside0 (w27.heap[gb290]? = some (.cells #[.int .i64 0, .int .i64 0, .int .i64 0, .int .i64 0, .int .i64 0] 46 (0, 0))) := ⟨by rw [← hq_]; exact (by (with_reducible repeat (first | refine blk_drewN ?_ _ | refine blk_drew ?_ | refine blk_alloc ?_ _)); exact BK290.out)⟩; have n1_ : Aside0 (Below w.heap.size w w27) := ⟨by rw [← hq_]; exact (by repeat (first | (with_reducible first | exact HB.out | apply below_alloc | apply pw_below_drewN | apply below_drew1 | refine below_set ?_ GE290.out) | exact HB.out))⟩; clear BK290 HB hq_; have BK290 := n0_; have HB := n1_; clear n0_ n1_))) | ((with_reducible refine gate_dst (N := 14) rfl ?_); refine box_event ?hg (N := 14) ?hd (cs := #[.int .i64 0, .int .i64 0, .int .i64 0, .int .i64 0, .int .i64 0]) (t := 46) ?hr ?_; (case hd => rfl); (case hg => rfl); (case hr => first | (go_simp; done) | (go_simp; rfl)); intro gb301 hg w28 hbox hb; have n0_ := Aside0.mk (blk_below (g := gb290) (o := .cells #[.int .i64 0, .int .i64 0, .int .i64 0, .int .i64 0, .int .i64 0] 46 (0, 0)) (by (with_reducible repeat (first | refine blk_drewN ?_ _ | refine blk_drew ?_ | refine blk_alloc ?_ _)); exact BK290.out) hb); have n1_ := Aside0.mk (below_step (by repeat (first | (with_reducible first | exact HB.out | apply below_alloc | apply pw_below_drewN | apply below_drew1 | refine below_set ?_ GE290.out) | exact HB.out)) hb); have n2_ := Aside0.mk (hbox); have n3_ := Aside0.mk ((by rw [hg]; exact (below_size (by repeat (first | (with_reducible first | exact HB.out | apply below_alloc | apply pw_below_drewN | apply below_drew1 | refine below_set ?_ GE290.out) | exact HB.out))) : w.heap.size ≤ gb301)); have n4_ := Aside0.mk ((by rw [hg]; exact (below_size (by repeat (first | (with_reducible first | exact HB.out | apply below_alloc | apply pw_below_drewN | apply below_drew1 | refine below_set ?_ GE290.out) | exact HB.out))) : w.heap.size ≤ gb301)); have n5_ := Aside0.mk ((by rw [hg]; exact Nat.ne_of_lt (blk_lt (g := gb290) (o := .cells #[.int .i64 0, .int .i64 0, .int .i64 0, .int .i64 0, .int .i64 0] 46 (0, 0)) (by (with_reducible repeat (first | refine blk_drewN ?_ _ | refine blk_drew ?_ | refine blk_alloc ?_ _)); exact BK290.out)) : gb290 ≠ gb301)); have n6_ := Aside0.mk ((by rw [hg]; exact Nat.ne_of_gt (blk_lt (g := gb290) (o := .cells #[.int .i64 0, .int .i64 0, .int .i64 0, .int .i64 0, .int .i64 0] 46 (0, 0)) (by (with_reducible repeat (first | refine blk_drewN ?_ _ | refine blk_drew ?_ | refine blk_alloc ?_ _)); exact BK290.out)) : gb301 ≠ gb290)); clear BK290; clear HB; have BK290 := n0_; have HB := n1_; have BK301 := n2_; have GW301 := n3_; have GE301 := n4_; have NB290_301 := n5_; have NB301_290 := n6_; clear n0_ n1_ n2_ n3_ n4_ n5_ n6_; clear hb hbox hg; have hnb29 := NB301_290.out; have hnc29 := NB290_301.out; have hcz30_0 : w28.cell? ⟨gb301, 0, none⟩ = some (.int .i64 0) := (blk_cell BK301.out 0).trans rfl; have hcz30_1 : w28.cell? ⟨gb301, 1, none⟩ = some (.int .i64 0) := (blk_cell BK301.out 1).trans rfl; have hcz30_2 : w28.cell? ⟨gb301, 2, none⟩ = some (.int .i64 0) := (blk_cell BK301.out 2).trans rfl; have hcz30_3 : w28.cell? ⟨gb301, 3, none⟩ = some (.int .i64 0) := (blk_cell BK301.out 3).trans rfl; have hcz30_4 : w28.cell? ⟨gb301, 4, none⟩ = some (.int .i64 0) := (blk_cell BK301.out 4).trans rfl; have hfz30_0 := blk_frozen BK301.out 0; have hfz30_1 := blk_frozen BK301.out 1; have hfz30_2 := blk_frozen BK301.out 2; have hfz30_3 := blk_frozen BK301.out 3; have hfz30_4 := blk_frozen BK301.out 4) | ((with_reducible refine gate_callee (f := 40) rfl ?_); refine goesL_ (some 62) rfl rfl Tryd.func40 (by kernel_rfl) rfl #[.agg #[.int .i64 (wrap64 (t291)), .int .i64 (wrap64 (t293)), .int .i64 (wrap64 (t295)), .int .i64 (wrap64 (t297)), .int .i64 (wrap64 (t299))]] rfl (by (try simp only [List.map_toArray, List.map_cons, List.map_nil]); first | done | rfl | (simp only [List.length_drop, List.length_take]; rfl)) ?_; (with_reducible refine (rollbookref04_PackMeta.calls k (wrap64 (t291)) (wrap64 (t293)) (wrap64 (t295)) (wrap64 (t297)) (wrap64 (t299)) t302 t303 _ A11.out).mono ?_); rintro e w31 ⟨rfl, hb⟩; refine ⟨_, rfl, ?_⟩; have n0_ := Aside0.mk (blk_below (g := gb290) (o := .cells #[.int .i64 0, .int .i64 0, .int .i64 0, .int .i64 0, .int .i64 0] 46 (0, 0)) (by (with_reducible repeat (first | refine blk_drewN ?_ _ | refine blk_drew ?_ | refine blk_alloc ?_ _)); refine blk_far ?_ NB290_301.out _; (with_reducible repeat (first | refine blk_drewN ?_ _ | refine blk_drew ?_ | refine blk_alloc ?_ _)); refine blk_far ?_ NB290_301.out _; (with_reducible repeat (first | refine blk_drewN ?_ _ | refine blk_drew ?_ | refine blk_alloc ?_ _)); refine blk_far ?_ NB290_301.out _; (with_reducible repeat (first | refine blk_drewN ?_ _ | refine blk_drew ?_ | refine blk_alloc ?_ _)); refine blk_far ?_ NB290_301.out _; (with_reducible repeat (first | refine blk_drewN ?_ _ | refine blk_drew ?_ | refine blk_alloc ?_ _)); refine blk_far ?_ NB290_301.out _; (with_reducible repeat (first | refine blk_drewN ?_ _ | refine blk_drew ?_ | refine blk_alloc ?_ _)); exact BK290.out) hb); have n1_ := Aside0.mk (blk_below (g := gb301) (o := .cells #[.int .i64 (wrap64 (t291)), .int .i64 (wrap64 (t293)), .int .i64 (wrap64 (t295)), .int .i64 (wrap64 (t297)), .int .i64 (wrap64 (t299))] 46 (0, 0)) (by (with_reducible repeat (first | refine blk_drewN ?_ _ | refine blk_drew ?_ | refine blk_alloc ?_ _)); refine blk_put (cs := #[.int .i64 (wrap64 (t291)), .int .i64 (wrap64 (t293)), .int .i64 (wrap64 (t295)), .int .i64 (wrap64 (t297)), .int .i64 0]) ?_ 4 _ rfl; (with_reducible repeat (first | refine blk_drewN ?_ _ | refine blk_drew ?_ | refine blk_alloc ?_ _)); refine blk_put (cs := #[.int .i64 (wrap64 (t291)), .int .i64 (wrap64 (t293)), .int .i64 (wrap64 (t295)), .int .i64 0, .int .i64 0]) ?_ 3 _ rfl; (with_reducible repeat (first | refine blk_drewN ?_ _ | refine blk_drew ?_ | refine blk_alloc ?_ _)); refine blk_put (cs := #[.int .i64 (wrap64 (t291)), .int .i64 (wrap64 (t293)), .int .i64 0, .int .i64 0, .int .i64 0]) ?_ 2 _ rfl; (with_reducible repeat (first | refine blk_drewN ?_ _ | refine blk_drew ?_ | refine blk_alloc ?_ _)); refine blk_put (cs := #[.int .i64 (wrap64 (t291)), .int .i64 0, .int .i64 0, .int .i64 0, .int .i64 0]) ?_ 1 _ rfl; (with_reducible repeat (first | refine blk_drewN ?_ _ | refine blk_drew ?_ | refine blk_alloc ?_ _)); refine blk_put (cs := #[.int .i64 0, .int .i64 0, .int .i64 0, .int .i64 0, .int .i64 0]) ?_ 0 _ rfl; (with_reducible repeat (first | refine blk_drewN ?_ _ | refine blk_drew ?_ | refine blk_alloc ?_ _)); exact BK301.out) hb); have n2_ := Aside0.mk (below_step (by repeat (first | (with_reducible first | exact HB.out | apply below_alloc | apply pw_below_drewN | apply below_drew1 | refine below_set ?_ GE290.out | refine below_set ?_ GE301.out) | exact HB.out)) hb); clear BK290; clear BK301; clear HB; have BK290 := n0_; have BK301 := n1_; have HB := n2_; clear n0_ n1_ n2_; (try clear hb); (try clear hb2); (try clear hk); (try clear hi); have hcz32_0 : w31.cell? ⟨gb290, 0, none⟩ = some (.int .i64 0) := (blk_cell BK290.out 0).trans rfl; have hcz32_1 : w31.cell? ⟨gb290, 1, none⟩ = some (.int .i64 0) := (blk_cell BK290.out 1).trans rfl; have hcz32_2 : w31.cell? ⟨gb290, 2, none⟩ = some (.int .i64 0) := (blk_cell BK290.out 2).trans rfl; have hcz32_3 : w31.cell? ⟨gb290, 3, none⟩ = some (.int .i64 0) := (blk_cell BK290.out 3).trans rfl; have hcz32_4 : w31.cell? ⟨gb290, 4, none⟩ = some (.int .i64 0) := (blk_cell BK290.out 4).trans rfl; have hfz32_0 := blk_frozen BK290.out 0; have hfz32_1 := blk_frozen BK290.out 1; have hfz32_2 := blk_frozen BK290.out 2; have hfz32_3 := blk_frozen BK290.out 3; have hfz32_4 := blk_frozen BK290.out 4))
        refine bodyPost_ret (results_ct rfl _ _ gb290 46 #[.int .i64 0, .int .i64 0, .int .i64 0, .int .i64 0, .int .i64 0] (0, 0) _ rfl (by (with_reducible repeat (first | refine blk_drewN ?_ _ | refine blk_drew ?_ | refine blk_alloc ?_ _)); refine blk_put (cs := #[.int .i64 0, .int .i64 0, .int .i64 0, .int .i64 0, .int .i64 0]) ?_ 4 _ rfl; (with_reducible repeat (first | refine blk_drewN ?_ _ | refine blk_drew ?_ | refine blk_alloc ?_ _)); refine blk_put (cs := #[.int .i64 0, .int .i64 0, .int .i64 0, .int .i64 0, .int .i64 0]) ?_ 3 _ rfl; (with_reducible repeat (first | refine blk_drewN ?_ _ | refine blk_drew ?_ | refine blk_alloc ?_ _)); refine blk_put (cs := #[.int .i64 0, .int .i64 0, .int .i64 0, .int .i64 0, .int .i64 0]) ?_ 2 _ rfl; (with_reducible repeat (first | refine blk_drewN ?_ _ | refine blk_drew ?_ | refine blk_alloc ?_ _)); refine blk_put (cs := #[.int .i64 0, .int .i64 0, .int .i64 0, .int .i64 0, .int .i64 0]) ?_ 1 _ rfl; (with_reducible repeat (first | refine blk_drewN ?_ _ | refine blk_drew ?_ | refine blk_alloc ?_ _)); refine blk_put (cs := #[.int .i64 0, .int .i64 0, .int .i64 0, .int .i64 0, .int .i64 0]) ?_ 0 _ rfl; (with_reducible repeat (first | refine blk_drewN ?_ _ | refine blk_drew ?_ | refine blk_alloc ?_ _)); exact BK290.out) Tryd.underlying46 rfl (by kernel_rfl)) rfl ?_
        exact ⟨by first | rfl | (simp [errW_none, errW_some] <;> rfl) | (simp [*, errW_none, errW_some] <;> rfl), by repeat (first | (with_reducible first | exact HB.out | apply below_alloc | apply pw_below_drewN | apply below_drew1 | refine below_set ?_ GE290.out | refine below_set ?_ GE301.out) | exact HB.out)⟩
  · rw [if_neg c2] at H
    have c2b0 : ((a0.size : Int) == 128) = false := beq_eq_false_iff_ne.mpr c2
    have c2b1 : ((a0.size : Int) != 128) = true := bne_iff_ne.mpr c2
    simp only [Option.some.injEq, Prod.mk.injEq] at H
    obtain ⟨rfl, rfl, rfl, rfl, rfl, rfl⟩ := H
    go_enter Tryd.func38, Tryd.ntmps38
    go_wp2_with (first | ((with_reducible refine gate_dst (N := 2) rfl ?_); refine box_event ?hg (N := 2) ?hd (cs := #[.int .i64 0, .int .i64 0, .int .i64 0, .int .i64 0, .int .i64 0]) (t := 46) ?hr ?_; (case hd => rfl); (case hg => rfl); (case hr => first | (go_simp; done) | (go_simp; rfl)); intro gb290 hg w33 hbox hb; have n0_ := Aside0.mk (below_step (by repeat (first | (with_reducible first | exact HB.out | apply below_alloc | apply pw_below_drewN | apply below_drew1) | exact HB.out)) hb); have n1_ := Aside0.mk (hbox); have n2_ := Aside0.mk ((by rw [hg]; exact (below_size (by repeat (first | (with_reducible first | exact HB.out | apply below_alloc | apply pw_below_drewN | apply below_drew1) | exact HB.out))) : w.heap.size ≤ gb290)); have n3_ := Aside0.mk ((by rw [hg]; exact (below_size (by repeat (first | (with_reducible first | exact HB.out | apply below_alloc | apply pw_below_drewN | apply below_drew1) | exact HB.out))) : w.heap.size ≤ gb290)); clear HB; have HB := n0_; have BK290 := n1_; have GW290 := n2_; have GE290 := n3_; clear n0_ n1_ n2_ n3_; clear hb hbox hg; have hcz34_0 : w33.cell? ⟨gb290, 0, none⟩ = some (.int .i64 0) := (blk_cell BK290.out 0).trans rfl; have hcz34_1 : w33.cell? ⟨gb290, 1, none⟩ = some (.int .i64 0) := (blk_cell BK290.out 1).trans rfl; have hcz34_2 : w33.cell? ⟨gb290, 2, none⟩ = some (.int .i64 0) := (blk_cell BK290.out 2).trans rfl; have hcz34_3 : w33.cell? ⟨gb290, 3, none⟩ = some (.int .i64 0) := (blk_cell BK290.out 3).trans rfl; have hcz34_4 : w33.cell? ⟨gb290, 4, none⟩ = some (.int .i64 0) := (blk_cell BK290.out 4).trans rfl; have hfz34_0 := blk_frozen BK290.out 0; have hfz34_1 := blk_frozen BK290.out 1; have hfz34_2 := blk_frozen BK290.out 2; have hfz34_3 := blk_frozen BK290.out 3; have hfz34_4 := blk_frozen BK290.out 4))
    refine bodyPost_ret (results_ct rfl _ _ gb290 46 #[.int .i64 0, .int .i64 0, .int .i64 0, .int .i64 0, .int .i64 0] (0, 0) _ rfl (by (with_reducible repeat (first | refine blk_drewN ?_ _ | refine blk_drew ?_ | refine blk_alloc ?_ _)); refine blk_put (cs := #[.int .i64 0, .int .i64 0, .int .i64 0, .int .i64 0, .int .i64 0]) ?_ 4 _ rfl; (with_reducible repeat (first | refine blk_drewN ?_ _ | refine blk_drew ?_ | refine blk_alloc ?_ _)); refine blk_put (cs := #[.int .i64 0, .int .i64 0, .int .i64 0, .int .i64 0, .int .i64 0]) ?_ 3 _ rfl; (with_reducible repeat (first | refine blk_drewN ?_ _ | refine blk_drew ?_ | refine blk_alloc ?_ _)); refine blk_put (cs := #[.int .i64 0, .int .i64 0, .int .i64 0, .int .i64 0, .int .i64 0]) ?_ 2 _ rfl; (with_reducible repeat (first | refine blk_drewN ?_ _ | refine blk_drew ?_ | refine blk_alloc ?_ _)); refine blk_put (cs := #[.int .i64 0, .int .i64 0, .int .i64 0, .int .i64 0, .int .i64 0]) ?_ 1 _ rfl; (with_reducible repeat (first | refine blk_drewN ?_ _ | refine blk_drew ?_ | refine blk_alloc ?_ _)); refine blk_put (cs := #[.int .i64 0, .int .i64 0, .int .i64 0, .int .i64 0, .int .i64 0]) ?_ 0 _ rfl; (with_reducible repeat (first | refine blk_drewN ?_ _ | refine blk_drew ?_ | refine blk_alloc ?_ _)); exact BK290.out) Tryd.underlying46 rfl (by kernel_rfl)) rfl ?_
    exact ⟨by first | rfl | (simp [errW_none, errW_some] <;> rfl) | (simp [*, errW_none, errW_some] <;> rfl), by repeat (first | (with_reducible first | exact HB.out | apply below_alloc | apply pw_below_drewN | apply below_drew1 | refine below_set ?_ GE290.out) | exact HB.out)⟩

end Go.Proofs.YtcoddeemfdnjpaaDoor.Fn
namespace Go.Proofs.YtcoddeemfdnjpaaDoor.Fn
open Go.RowKit Go.Proofs.YtcoddeemfdnjpaaDoorW.PrintWords Go.Proofs.YtcoddeemfdnjpaaDoorW.PrintLast Go.Proofs.YtcoddeemfdnjpaaDoorW.PrintMore
attribute [local go_sem] max2_int min2_int max_two min_two max_three min_three max_four min_four   -- for this text's walks alone
set_option linter.unusedVariables false
set_option linter.unusedSimpArgs false

/-! ### rollbookref04_Newest: function 44 -/
def rollbookref04_Newest.j0 : Nat → Int → Int → Bool → Int → Int → Int → Int → Int → Int → Int → Int → Int → Int → Option (Int × Int × Int × Int × Int × Int × Int)
  | 0, _, _, _, _, _, _, _, _, _, _, _, _, _ => none
  | k + 1, x8, x10, x26, x314000, x314001, x314002, x314003, x314004, x321000, x321001, x321002, x321003, x321004 => if x26 = true then (if x321000 > x314000 then (some (x321000, x321001, x321002, x321003, x321004, 1, 0)) else (some (x314000, x314001, x314002, x314003, x314004, 0, 0))) else (if x8 = 0 then (some (x314000, x314001, x314002, x314003, x314004, 0, 0)) else (if x10 = 0 then (some (x321000, x321001, x321002, x321003, x321004, 1, 0)) else (some (0, 0, 0, 0, 0, 0, 4))))
def rollbookref04_Newest.f (k : Nat) (a0 : ByteArray) (a1 : ByteArray) : Option (Int × Int × Int × Int × Int × Int × Int) := (rollbookref04_UnpackMeta.f k a0).bind fun bt307 => ((rollbookref04_UnpackMeta.f k a1).bind fun bt314 => (if bt307.2.2.2.2.2 = 0 then (rollbookref04_Newest.j0 k bt307.2.2.2.2.2 bt314.2.2.2.2.2 (bt314.2.2.2.2.2 == 0) bt307.1 bt307.2.1 bt307.2.2.1 bt307.2.2.2.1 bt307.2.2.2.2.1 bt314.1 bt314.2.1 bt314.2.2.1 bt314.2.2.2.1 bt314.2.2.2.2.1) else (rollbookref04_Newest.j0 k bt307.2.2.2.2.2 bt314.2.2.2.2.2 false bt307.1 bt307.2.1 bt307.2.2.1 bt307.2.2.2.1 bt307.2.2.2.2.1 bt314.1 bt314.2.1 bt314.2.2.1 bt314.2.2.2.1 bt314.2.2.2.2.1)))
theorem rollbookref04_Newest.mono_l : ∀ k, (∀ y0 y1 y2 y3 y4 y5 y6 y7 y8 y9 y10 y11 y12, LeO (rollbookref04_Newest.j0 k y0 y1 y2 y3 y4 y5 y6 y7 y8 y9 y10 y11 y12) (rollbookref04_Newest.j0 (k + 1) y0 y1 y2 y3 y4 y5 y6 y7 y8 y9 y10 y11 y12))
  | 0 => fun _ _ _ _ _ _ _ _ _ _ _ _ _ r h => by simp [rollbookref04_Newest.j0] at h
  | k + 1 => by
    have ih0 := rollbookref04_Newest.mono_l k
    · intro y0 y1 y2 y3 y4 y5 y6 y7 y8 y9 y10 y11 y12
      unfold rollbookref04_Newest.j0
      repeat' first
      | (with_reducible exact ih0 _ _ _ _ _ _ _ _ _ _ _ _ _)
      | (with_reducible exact rollbookref04_UnpackMeta.mono _ _)
      | (with_reducible exact LeO.refl _)
      | (with_reducible exact LeO.none _)
      | (with_reducible refine LeO.ite ?_ ?_)
      | (with_reducible refine LeO.bind ?_ (fun _ => ?_))
      | exact ih0 _ _ _ _ _ _ _ _ _ _ _ _ _
      | exact rollbookref04_UnpackMeta.mono _ _
      | exact LeO.none _
      | refine LeO.ite ?_ ?_
      | refine LeO.bind ?_ (fun _ => ?_)
theorem rollbookref04_Newest.mono : ∀ a0 a1 k, LeO (rollbookref04_Newest.f k a0 a1) (rollbookref04_Newest.f (k + 1) a0 a1) := by
  intro a0 a1 k
  have ih0 := rollbookref04_Newest.mono_l k
  unfold rollbookref04_Newest.f
  repeat' first
      | (with_reducible exact ih0 _ _ _ _ _ _ _ _ _ _ _ _ _)
      | (with_reducible exact rollbookref04_UnpackMeta.mono _ _)
      | (with_reducible exact LeO.refl _)
      | (with_reducible exact LeO.none _)
      | (with_reducible refine LeO.ite ?_ ?_)
      | (with_reducible refine LeO.bind ?_ (fun _ => ?_))
      | exact ih0 _ _ _ _ _ _ _ _ _ _ _ _ _
      | exact rollbookref04_UnpackMeta.mono _ _
      | exact LeO.none _
      | refine LeO.ite ?_ ?_
      | refine LeO.bind ?_ (fun _ => ?_)
set_option maxHeartbeats 8000000 in
set_option maxRecDepth 100000 in
theorem rollbookref04_Newest.calls (k : Nat) (a0 : ByteArray) (a1 : ByteArray) (r1 : Int) (r2 : Int) (r3 : Int) (r4 : Int) (r5 : Int) (r6 : Int) (r7 : Int) (w : World) (h : rollbookref04_Newest.f k a0 a1 = some (r1, r2, r3, r4, r5, r6, r7)) :
    Calls Tryd.prog 44 #[.string a0, .string a1] w fun e w' => e = .returned (.tuple #[.agg #[.int .i64 r1, .int .i64 r2, .int .i64 r3, .int .i64 r4, .int .i64 r5], .int .i64 r6, .int .i64 r7]) ∧ Below w.heap.size w w' := by
  have hu46 := Tryd.underlying46
  have HB := Aside0.mk (Below.refl w.heap.size w)
  have H : ((rollbookref04_UnpackMeta.f k a0).bind fun bt307 => ((rollbookref04_UnpackMeta.f k a1).bind fun bt314 => (if bt307.2.2.2.2.2 = 0 then (rollbookref04_Newest.j0 k bt307.2.2.2.2.2 bt314.2.2.2.2.2 (bt314.2.2.2.2.2 == 0) bt307.1 bt307.2.1 bt307.2.2.1 bt307.2.2.2.1 bt307.2.2.2.2.1 bt314.1 bt314.2.1 bt314.2.2.1 bt314.2.2.2.1 bt314.2.2.2.2.1) else (rollbookref04_Newest.j0 k bt307.2.2.2.2.2 bt314.2.2.2.2.2 false bt307.1 bt307.2.1 bt307.2.2.1 bt307.2.2.2.1 bt307.2.2.2.2.1 bt314.1 bt314.2.1 bt314.2.2.1 bt314.2.2.2.1 bt314.2.2.2.2.1)))) = some (r1, r2, r3, r4, r5, r6, r7) := h
  clear h
  replace H := Option.bind_eq_some_iff.mp H
  obtain ⟨⟨t307, t308, t309, t310, t311, t312⟩, A30, H⟩ := H
  replace H : ((rollbookref04_UnpackMeta.f k a1).bind fun bt314 => (if t312 = 0 then (rollbookref04_Newest.j0 k t312 bt314.2.2.2.2.2 (bt314.2.2.2.2.2 == 0) t307 t308 t309 t310 t311 bt314.1 bt314.2.1 bt314.2.2.1 bt314.2.2.2.1 bt314.2.2.2.2.1) else (rollbookref04_Newest.j0 k t312 bt314.2.2.2.2.2 false t307 t308 t309 t310 t311 bt314.1 bt314.2.1 bt314.2.2.1 bt314.2.2.2.1 bt314.2.2.2.2.1))) = some (r1, r2, r3, r4, r5, r6, r7) := H
  have A3 := Aside0.mk A30
  clear A30
  replace H := Option.bind_eq_some_iff.mp H
  obtain ⟨⟨t314, t315, t316, t317, t318, t319⟩, A40, H⟩ := H
  replace H : (if t312 = 0 then (rollbookref04_Newest.j0 k t312 t319 (t319 == 0) t307 t308 t309 t310 t311 t314 t315 t316 t317 t318) else (rollbookref04_Newest.j0 k t312 t319 false t307 t308 t309 t310 t311 t314 t315 t316 t317 t318)) = some (r1, r2, r3, r4, r5, r6, r7) := H
  have A4 := Aside0.mk A40
  clear A40
  have HC5 := Aside0.mk H
  clear H
  go_enter Tryd.func44, Tryd.ntmps44
  go_upto_region 3 with (first | ((with_reducible refine gate_dst (N := 4) rfl ?_); refine box_event ?hg (N := 4) ?hd (cs := #[.int .i64 0, .int .i64 0, .int .i64 0, .int .i64 0, .int .i64 0]) (t := 46) ?hr ?_; (case hd => rfl); (case hg => rfl); (case hr => first | (go_simp; done) | (go_simp; rfl)); intro gb306 hg w6 hbox hb; have n0_ := Aside0.mk (below_step (by repeat (first | (with_reducible first | exact HB.out | apply below_alloc | apply pw_below_drewN | apply below_drew1) | exact HB.out)) hb); have n1_ := Aside0.mk (hbox); have n2_ := Aside0.mk ((by rw [hg]; exact (below_size (by repeat (first | (with_reducible first | exact HB.out | apply below_alloc | apply pw_below_drewN | apply below_drew1) | exact HB.out))) : w.heap.size ≤ gb306)); have n3_ := Aside0.mk ((by rw [hg]; exact (below_size (by repeat (first | (with_reducible first | exact HB.out | apply below_alloc | apply pw_below_drewN | apply below_drew1) | exact HB.out))) : w.heap.size ≤ gb306)); clear HB; have HB := n0_; have BK306 := n1_; have GW306 := n2_; have GE306 := n3_; clear n0_ n1_ n2_ n3_; clear hb hbox hg) | ((with_reducible refine gate_callee (f := 38) rfl ?_); refine goesL_ (some 13) rfl rfl Tryd.func38 (by kernel_rfl) rfl #[.string a0] rfl (by (try simp only [List.map_toArray, List.map_cons, List.map_nil]); first | done | rfl | (simp only [List.length_drop, List.length_take]; rfl)) ?_; (with_reducible refine (rollbookref04_UnpackMeta.calls k a0 t307 t308 t309 t310 t311 t312 _ A3.out).mono ?_); rintro e w7 ⟨rfl, hb⟩; refine ⟨_, rfl, ?_⟩; have n0_ := Aside0.mk (blk_below (g := gb306) (o := .cells #[.int .i64 0, .int .i64 0, .int .i64 0, .int .i64 0, .int .i64 0] 46 (0, 0)) (by (with_reducible repeat (first | refine blk_drewN ?_ _ | refine blk_drew ?_ | refine blk_alloc ?_ _)); exact BK306.out) hb); have n1_ := Aside0.mk (below_step (by repeat (first | (with_reducible first | exact HB.out | apply below_alloc | apply pw_below_drewN | apply below_drew1 | refine below_set ?_ GE306.out) | exact HB.out)) hb); clear BK306; clear HB; have BK306 := n0_; have HB := n1_; clear n0_ n1_; (try clear hb); (try clear hb2); (try clear hk); (try clear hi)) | ((with_reducible refine gate_dst (N := 7) rfl ?_); refine box_event ?hg (N := 7) ?hd (cs := #[.int .i64 0, .int .i64 0, .int .i64 0, .int .i64 0, .int .i64 0]) (t := 46) ?hr ?_; (case hd => rfl); (case hg => rfl); (case hr => first | (go_simp; done) | (go_simp; rfl)); intro gb313 hg w8 hbox hb; have n0_ := Aside0.mk (blk_below (g := gb306) (o := .cells #[.int .i64 0, .int .i64 0, .int .i64 0, .int .i64 0, .int .i64 0] 46 (0, 0)) (by (with_reducible repeat (first | refine blk_drewN ?_ _ | refine blk_drew ?_ | refine blk_alloc ?_ _)); exact BK306.out) hb); have n1_ := Aside0.mk (below_step (by repeat (first | (with_reducible first | exact HB.out | apply below_alloc | apply pw_below_drewN | apply below_drew1 | refine below_set ?_ GE306.out) | exact HB.out)) hb); have n2_ := Aside0.mk (hbox); have n3_ := Aside0.mk ((by rw [hg]; exact (below_size (by repeat (first | (with_reducible first | exact HB.out | apply below_alloc | apply pw_below_drewN | apply below_drew1 | refine below_set ?_ GE306.out) | exact HB.out))) : w.heap.size ≤ gb313)); have n4_ := Aside0.mk ((by rw [hg]; exact (below_size (by repeat (first | (with_reducible first | exact HB.out | apply below_alloc | apply pw_below_drewN | apply below_drew1 | refine below_set ?_ GE306.out) | exact HB.out))) : w.heap.size ≤ gb313)); have n5_ := Aside0.mk ((by rw [hg]; exact Nat.ne_of_lt (blk_lt (g := gb306) (o := .cells #[.int .i64 0, .int .i64 0, .int .i64 0, .int .i64 0, .int .i64 0] 46 (0, 0)) (by (with_reducible repeat (first | refine blk_drewN ?_ _ | refine blk_drew ?_ | refine blk_alloc ?_ _)); exact BK306.out)) : gb306 ≠ gb313)); have n6_ := Aside0.mk ((by rw [hg]; exact Nat.ne_of_gt (blk_lt (g := gb306) (o := .cells #[.int .i64 0, .int .i64 0, .int .i64 0, .int .i64 0, .int .i64 0] 46 (0, 0)) (by (with_reducible repeat (first | refine blk_drewN ?_ _ | refine blk_drew ?_ | refine blk_alloc ?_ _)); exact BK306.out)) : gb313 ≠ gb306)); clear BK306; clear HB; have BK306 := n0_; have HB := n1_; have BK313 := n2_; have GW313 := n3_; have GE313 := n4_; have NB306_313 := n5_; have NB313_306 := n6_; clear n0_ n1_ n2_ n3_ n4_ n5_ n6_; clear hb hbox hg; have hnb9 := NB313_306.out; have hnc9 := NB306_313.out; have hcz10_0 : w8.cell? ⟨gb313, 0, none⟩ = some (.int .i64 0) := (blk_cell BK313.out 0).trans rfl; have hcz10_1 : w8.cell? ⟨gb313, 1, none⟩ = some (.int .i64 0) := (blk_cell BK313.out 1).trans rfl; have hcz10_2 : w8.cell? ⟨gb313, 2, none⟩ = some (.int .i64 0) := (blk_cell BK313.out 2).trans rfl; have hcz10_3 : w8.cell? ⟨gb313, 3, none⟩ = some (.int .i64 0) := (blk_cell BK313.out 3).trans rfl; have hcz10_4 : w8.cell? ⟨gb313, 4, none⟩ = some (.int .i64 0) := (blk_cell BK313.out 4).trans rfl; have hfz10_0 := blk_frozen BK313.out 0; have hfz10_1 := blk_frozen BK313.out 1; have hfz10_2 := blk_frozen BK313.out 2; have hfz10_3 := blk_frozen BK313.out 3; have hfz10_4 := blk_frozen BK313.out 4) | ((with_reducible refine gate_callee (f := 38) rfl ?_); refine goesL_ (some 18) rfl rfl Tryd.func38 (by kernel_rfl) rfl #[.string a1] rfl (by (try simp only [List.map_toArray, List.map_cons, List.map_nil]); first | done | rfl | (simp only [List.length_drop, List.length_take]; rfl)) ?_; (with_reducible refine (rollbookref04_UnpackMeta.calls k a1 t314 t315 t316 t317 t318 t319 _ A4.out).mono ?_); rintro e w11 ⟨rfl, hb⟩; refine ⟨_, rfl, ?_⟩; have n0_ := Aside0.mk (blk_below (g := gb306) (o := .cells #[.int .i64 0, .int .i64 0, .int .i64 0, .int .i64 0, .int .i64 0] 46 (0, 0)) (by (with_reducible repeat (first | refine blk_drewN ?_ _ | refine blk_drew ?_ | refine blk_alloc ?_ _)); refine blk_far ?_ NB306_313.out _; (with_reducible repeat (first | refine blk_drewN ?_ _ | refine blk_drew ?_ | refine blk_alloc ?_ _)); refine blk_far ?_ NB306_313.out _; (with_reducible repeat (first | refine blk_drewN ?_ _ | refine blk_drew ?_ | refine blk_alloc ?_ _)); refine blk_far ?_ NB306_313.out _; (with_reducible repeat (first | refine blk_drewN ?_ _ | refine blk_drew ?_ | refine blk_alloc ?_ _)); refine blk_far ?_ NB306_313.out _; (with_reducible repeat (first | refine blk_drewN ?_ _ | refine blk_drew ?_ | refine blk_alloc ?_ _)); refine blk_far ?_ NB306_313.out _; (with_reducible repeat (first | refine blk_drewN ?_ _ | refine blk_drew ?_ | refine blk_alloc ?_ _)); exact BK306.out) hb); have n1_ := Aside0.mk (blk_below (g := gb313) (o := .cells #[.int .i64 t307, .int .i64 t308, .int .i64 t309, .int .i64 t310, .int .i64 t311] 46 (0, 0)) (by (with_reducible repeat (first | refine blk_drewN ?_ _ | refine blk_drew ?_ | refine blk_alloc ?_ _)); refine blk_put (cs := #[.int .i64 t307, .int .i64 t308, .int .i64 t309, .int .i64 t310, .int .i64 0]) ?_ 4 _ rfl; (with_reducible repeat (first | refine blk_drewN ?_ _ | refine blk_drew ?_ | refine blk_alloc ?_ _)); refine blk_put (cs := #[.int .i64 t307, .int .i64 t308, .int .i64 t309, .int .i64 0, .int .i64 0]) ?_ 3 _ rfl; (with_reducible repeat (first | refine blk_drewN ?_ _ | refine blk_drew ?_ | refine blk_alloc ?_ _)); refine blk_put (cs := #[.int .i64 t307, .int .i64 t308, .int .i64 0, .int .i64 0, .int .i64 0]) ?_ 2 _ rfl; (with_reducible repeat (first | refine blk_drewN ?_ _ | refine blk_drew ?_ | refine blk_alloc ?_ _)); refine blk_put (cs := #[.int .i64 t307, .int .i64 0, .int .i64 0, .int .i64 0, .int .i64 0]) ?_ 1 _ rfl; (with_reducible repeat (first | refine blk_drewN ?_ _ | refine blk_drew ?_ | refine blk_alloc ?_ _)); refine blk_put (cs := #[.int .i64 0, .int .i64 0, .int .i64 0, .int .i64 0, .int .i64 0]) ?_ 0 _ rfl; (with_reducible repeat (first | refine blk_drewN ?_ _ | refine blk_drew ?_ | refine blk_alloc ?_ _)); exact BK313.out) hb); have n2_ := Aside0.mk (below_step (by repeat (first | (with_reducible first | exact HB.out | apply below_alloc | apply pw_below_drewN | apply below_drew1 | refine below_set ?_ GE306.out | refine below_set ?_ GE313.out) | exact HB.out)) hb); clear BK306; clear BK313; clear HB; have BK306 := n0_; have BK313 := n1_; have HB := n2_; clear n0_ n1_ n2_; (try clear hb); (try clear hb2); (try clear hk); (try clear hi)) | ((with_reducible refine gate_dst (N := 9) rfl ?_); refine box_event ?hg (N := 9) ?hd (cs := #[.int .i64 0, .int .i64 0, .int .i64 0, .int .i64 0, .int .i64 0]) (t := 46) ?hr ?_; (case hd => rfl); (case hg => rfl); (case hr => first | (go_simp; done) | (go_simp; rfl)); intro gb320 hg w12 hbox hb; have n0_ := Aside0.mk (blk_below (g := gb306) (o := .cells #[.int .i64 0, .int .i64 0, .int .i64 0, .int .i64 0, .int .i64 0] 46 (0, 0)) (by (with_reducible repeat (first | refine blk_drewN ?_ _ | refine blk_drew ?_ | refine blk_alloc ?_ _)); exact BK306.out) hb); have n1_ := Aside0.mk (blk_below (g := gb313) (o := .cells #[.int .i64 t307, .int .i64 t308, .int .i64 t309, .int .i64 t310, .int .i64 t311] 46 (0, 0)) (by (with_reducible repeat (first | refine blk_drewN ?_ _ | refine blk_drew ?_ | refine blk_alloc ?_ _)); exact BK313.out) hb); have n2_ := Aside0.mk (below_step (by repeat (first | (with_reducible first | exact HB.out | apply below_alloc | apply pw_below_drewN | apply below_drew1 | refine below_set ?_ GE306.out | refine below_set ?_ GE313.out) | exact HB.out)) hb); have n3_ := Aside0.mk (hbox); have n4_ := Aside0.mk ((by rw [hg]; exact (below_size (by repeat (first | (with_reducible first | exact HB.out | apply below_alloc | apply pw_below_drewN | apply below_drew1 | refine below_set ?_ GE306.out | refine below_set ?_ GE313.out) | exact HB.out))) : w.heap.size ≤ gb320)); have n5_ := Aside0.mk ((by rw [hg]; exact (below_size (by repeat (first | (with_reducible first | exact HB.out | apply below_alloc | apply pw_below_drewN | apply below_drew1 | refine below_set ?_ GE306.out | refine below_set ?_ GE313.out) | exact HB.out))) : w.heap.size ≤ gb320)); have n6_ := Aside0.mk ((by rw [hg]; exact Nat.ne_of_lt (blk_lt (g := gb306) (o := .cells #[.int .i64 0, .int .i64 0, .int .i64 0, .int .i64 0, .int .i64 0] 46 (0, 0)) (by (with_reducible repeat (first | refine blk_drewN ?_ _ | refine blk_drew ?_ | refine blk_alloc ?_ _)); exact BK306.out)) : gb306 ≠ gb320)); have n7_ := Aside0.mk ((by rw [hg]; exact Nat.ne_of_gt (blk_lt (g := gb306) (o := .cells #[.int .i64 0, .int .i64 0, .int .i64 0, .int .i64 0, .int .i64 0] 46 (0, 0)) (by (with_reducible repeat (first | refine blk_drewN ?_ _ | refine blk_drew ?_ | refine blk_alloc ?_ _)); exact BK306.out)) : gb320 ≠ gb306)); have n8_ := Aside0.mk ((by rw [hg]; exact Nat.ne_of_lt (blk_lt (g := gb313) (o := .cells #[.int .i64 t307, .int .i64 t308, .int .i64 t309, .int .i64 t310, .int .i64 t311] 46 (0, 0)) (by (with_reducible repeat (first | refine blk_drewN ?_ _ | refine blk_drew ?_ | refine blk_alloc ?_ _)); exact BK313.out)) : gb313 ≠ gb320)); have n9_ := Aside0.mk ((by rw [hg]; exact Nat.ne_of_gt (blk_lt (g := gb313) (o := .cells #[.int .i64 t307, .int .i64 t308, .int .i64 t309, .int .i64 t310, .int .i64 t311] 46 (0, 0)) (by (with_reducible repeat (first | refine blk_drewN ?_ _ | refine blk_drew ?_ | refine blk_alloc ?_ _)); exact BK313.out)) : gb320 ≠ gb313)); clear BK306; clear BK313; clear HB; have BK306 := n0_; have BK313 := n1_; have HB := n2_; have BK320 := n3_; have GW320 := n4_; have GE320 := n5_; have NB306_320 := n6_; have NB320_306 := n7_; have NB313_320 := n8_; have NB320_313 := n9_; clear n0_ n1_ n2_ n3_ n4_ n5_ n6_ n7_ n8_ n9_; clear hb hbox hg; have hnb13 := NB320_306.out; have hnc13 := NB306_320.out; have hnb14 := NB320_313.out; have hnc14 := NB313_320.out; have hcz15_0 : w12.cell? ⟨gb320, 0, none⟩ = some (.int .i64 0) := (blk_cell BK320.out 0).trans rfl; have hcz15_1 : w12.cell? ⟨gb320, 1, none⟩ = some (.int .i64 0) := (blk_cell BK320.out 1).trans rfl; have hcz15_2 : w12.cell? ⟨gb320, 2, none⟩ = some (.int .i64 0) := (blk_cell BK320.out 2).trans rfl; have hcz15_3 : w12.cell? ⟨gb320, 3, none⟩ = some (.int .i64 0) := (blk_cell BK320.out 3).trans rfl; have hcz15_4 : w12.cell? ⟨gb320, 4, none⟩ = some (.int .i64 0) := (blk_cell BK320.out 4).trans rfl; have hfz15_0 := blk_frozen BK320.out 0; have hfz15_1 := blk_frozen BK320.out 1; have hfz15_2 := blk_frozen BK320.out 2; have hfz15_3 := blk_frozen BK320.out 3; have hfz15_4 := blk_frozen BK320.out 4))
  (try simp only [Act.put, List.setIfInBounds_toArray, List.set_cons_zero, List.set_cons_succ])
  go_cut [26] (fun v26 wc => ∃ (kq : Nat) (x26_4 : Bool), v26 = .bool x26_4 ∧ Aside0 (rollbookref04_Newest.j0 kq t312 t319 x26_4 t307 t308 t309 t310 t311 t314 t315 t316 t317 t318 = some (r1, r2, r3, r4, r5, r6, r7)) ∧ Aside0 (kq ≤ k) ∧ Aside0 (wc.heap[gb306]? = some (.cells #[.int .i64 0, .int .i64 0, .int .i64 0, .int .i64 0, .int .i64 0] 46 (0, 0))) ∧ Aside0 (wc.heap[gb313]? = some (.cells #[.int .i64 t307, .int .i64 t308, .int .i64 t309, .int .i64 t310, .int .i64 t311] 46 (0, 0))) ∧ Aside0 (wc.heap[gb320]? = some (.cells #[.int .i64 t314, .int .i64 t315, .int .i64 t316, .int .i64 t317, .int .i64 t318] 46 (0, 0))) ∧ Aside0 (Below w.heap.size w wc))
  case first =>
    have H := HC5.out
    clear HC5
    by_cases c16 : t312 = 0
    · rw [if_pos c16] at H
      have c16b0 : (t312 == 0) = true := beq_iff_eq.mpr c16
      have c16b1 : (t312 != 0) = false := bne_eq_false_iff_eq.mpr c16
      clear c16
      (first | rw [c16b0] | (simp only [i64_w, i32_w]; rw [c16b0]) | skip)
      have H' := Aside0.mk H
      clear H
      go_wp2
      go_meet
      case rel => exact ⟨_, ((t319 == 0)), (by first | rfl | (simp; done) | (simp [*]; done)), H', ⟨by first | omega | exact Nat.le_refl _⟩, ⟨by (with_reducible repeat (first | refine blk_drewN ?_ _ | refine blk_drew ?_ | refine blk_alloc ?_ _)); refine blk_far ?_ NB306_320.out _; (with_reducible repeat (first | refine blk_drewN ?_ _ | refine blk_drew ?_ | refine blk_alloc ?_ _)); refine blk_far ?_ NB306_320.out _; (with_reducible repeat (first | refine blk_drewN ?_ _ | refine blk_drew ?_ | refine blk_alloc ?_ _)); refine blk_far ?_ NB306_320.out _; (with_reducible repeat (first | refine blk_drewN ?_ _ | refine blk_drew ?_ | refine blk_alloc ?_ _)); refine blk_far ?_ NB306_320.out _; (with_reducible repeat (first | refine blk_drewN ?_ _ | refine blk_drew ?_ | refine blk_alloc ?_ _)); refine blk_far ?_ NB306_320.out _; (with_reducible repeat (first | refine blk_drewN ?_ _ | refine blk_drew ?_ | refine blk_alloc ?_ _)); exact BK306.out⟩, ⟨by (with_reducible repeat (first | refine blk_drewN ?_ _ | refine blk_drew ?_ | refine blk_alloc ?_ _)); refine blk_far ?_ NB313_320.out _; (with_reducible repeat (first | refine blk_drewN ?_ _ | refine blk_drew ?_ | refine blk_alloc ?_ _)); refine blk_far ?_ NB313_320.out _; (with_reducible repeat (first | refine blk_drewN ?_ _ | refine blk_drew ?_ | refine blk_alloc ?_ _)); refine blk_far ?_ NB313_320.out _; (with_reducible repeat (first | refine blk_drewN ?_ _ | refine blk_drew ?_ | refine blk_alloc ?_ _)); refine blk_far ?_ NB313_320.out _; (with_reducible repeat (first | refine blk_drewN ?_ _ | refine blk_drew ?_ | refine blk_alloc ?_ _)); refine blk_far ?_ NB313_320.out _; (with_reducible repeat (first | refine blk_drewN ?_ _ | refine blk_drew ?_ | refine blk_alloc ?_ _)); exact BK313.out⟩, ⟨by (with_reducible repeat (first | refine blk_drewN ?_ _ | refine blk_drew ?_ | refine blk_alloc ?_ _)); refine blk_put (cs := #[.int .i64 t314, .int .i64 t315, .int .i64 t316, .int .i64 t317, .int .i64 0]) ?_ 4 _ rfl; (with_reducible repeat (first | refine blk_drewN ?_ _ | refine blk_drew ?_ | refine blk_alloc ?_ _)); refine blk_put (cs := #[.int .i64 t314, .int .i64 t315, .int .i64 t316, .int .i64 0, .int .i64 0]) ?_ 3 _ rfl; (with_reducible repeat (first | refine blk_drewN ?_ _ | refine blk_drew ?_ | refine blk_alloc ?_ _)); refine blk_put (cs := #[.int .i64 t314, .int .i64 t315, .int .i64 0, .int .i64 0, .int .i64 0]) ?_ 2 _ rfl; (with_reducible repeat (first | refine blk_drewN ?_ _ | refine blk_drew ?_ | refine blk_alloc ?_ _)); refine blk_put (cs := #[.int .i64 t314, .int .i64 0, .int .i64 0, .int .i64 0, .int .i64 0]) ?_ 1 _ rfl; (with_reducible repeat (first | refine blk_drewN ?_ _ | refine blk_drew ?_ | refine blk_alloc ?_ _)); refine blk_put (cs := #[.int .i64 0, .int .i64 0, .int .i64 0, .int .i64 0, .int .i64 0]) ?_ 0 _ rfl; (with_reducible repeat (first | refine blk_drewN ?_ _ | refine blk_drew ?_ | refine blk_alloc ?_ _)); exact BK320.out⟩, ⟨by repeat (first | (with_reducible first | exact HB.out | apply below_alloc | apply pw_below_drewN | apply below_drew1 | refine below_set ?_ GE306.out | refine below_set ?_ GE313.out | refine below_set ?_ GE320.out) | exact HB.out)⟩⟩
    · rw [if_neg c16] at H
      have c16b0 : (t312 == 0) = false := beq_eq_false_iff_ne.mpr c16
      have c16b1 : (t312 != 0) = true := bne_iff_ne.mpr c16
      (first | rw [c16b0] | (simp only [i64_w, i32_w]; rw [c16b0]) | skip)
      have H' := Aside0.mk H
      clear H
      go_wp2
      go_meet
      case rel => exact ⟨_, (false), (by first | rfl | (simp; done) | (simp [*]; done)), H', ⟨by first | omega | exact Nat.le_refl _⟩, ⟨by (with_reducible repeat (first | refine blk_drewN ?_ _ | refine blk_drew ?_ | refine blk_alloc ?_ _)); refine blk_far ?_ NB306_320.out _; (with_reducible repeat (first | refine blk_drewN ?_ _ | refine blk_drew ?_ | refine blk_alloc ?_ _)); refine blk_far ?_ NB306_320.out _; (with_reducible repeat (first | refine blk_drewN ?_ _ | refine blk_drew ?_ | refine blk_alloc ?_ _)); refine blk_far ?_ NB306_320.out _; (with_reducible repeat (first | refine blk_drewN ?_ _ | refine blk_drew ?_ | refine blk_alloc ?_ _)); refine blk_far ?_ NB306_320.out _; (with_reducible repeat (first | refine blk_drewN ?_ _ | refine blk_drew ?_ | refine blk_alloc ?_ _)); refine blk_far ?_ NB306_320.out _; (with_reducible repeat (first | refine blk_drewN ?_ _ | refine blk_drew ?_ | refine blk_alloc ?_ _)); exact BK306.out⟩, ⟨by (with_reducible repeat (first | refine blk_drewN ?_ _ | refine blk_drew ?_ | refine blk_alloc ?_ _)); refine blk_far ?_ NB313_320.out _; (with_reducible repeat (first | refine blk_drewN ?_ _ | refine blk_drew ?_ | refine blk_alloc ?_ _)); refine blk_far ?_ NB313_320.out _; (with_reducible repeat (first | refine blk_drewN ?_ _ | refine blk_drew ?_ | refine blk_alloc ?_ _)); refine blk_far ?_ NB313_320.out _; (with_reducible repeat (first | refine blk_drewN ?_ _ | refine blk_drew ?_ | refine blk_alloc ?_ _)); refine blk_far ?_ NB313_320.out _; (with_reducible repeat (first | refine blk_drewN ?_ _ | refine blk_drew ?_ | refine blk_alloc ?_ _)); refine blk_far ?_ NB313_320.out _; (with_reducible repeat (first | refine blk_drewN ?_ _ | refine blk_drew ?_ | refine blk_alloc ?_ _)); exact BK313.out⟩, ⟨by (with_reducible repeat (first | refine blk_drewN ?_ _ | refine blk_drew ?_ | refine blk_alloc ?_ _)); refine blk_put (cs := #[.int .i64 t314, .int .i64 t315, .int .i64 t316, .int .i64 t317, .int .i64 0]) ?_ 4 _ rfl; (with_reducible repeat (first | refine blk_drewN ?_ _ | refine blk_drew ?_ | refine blk_alloc ?_ _)); refine blk_put (cs := #[.int .i64 t314, .int .i64 t315, .int .i64 t316, .int .i64 0, .int .i64 0]) ?_ 3 _ rfl; (with_reducible repeat (first | refine blk_drewN ?_ _ | refine blk_drew ?_ | refine blk_alloc ?_ _)); refine blk_put (cs := #[.int .i64 t314, .int .i64 t315, .int .i64 0, .int .i64 0, .int .i64 0]) ?_ 2 _ rfl; (with_reducible repeat (first | refine blk_drewN ?_ _ | refine blk_drew ?_ | refine blk_alloc ?_ _)); refine blk_put (cs := #[.int .i64 t314, .int .i64 0, .int .i64 0, .int .i64 0, .int .i64 0]) ?_ 1 _ rfl; (with_reducible repeat (first | refine blk_drewN ?_ _ | refine blk_drew ?_ | refine blk_alloc ?_ _)); refine blk_put (cs := #[.int .i64 0, .int .i64 0, .int .i64 0, .int .i64 0, .int .i64 0]) ?_ 0 _ rfl; (with_reducible repeat (first | refine blk_drewN ?_ _ | refine blk_drew ?_ | refine blk_alloc ?_ _)); exact BK320.out⟩, ⟨by repeat (first | (with_reducible first | exact HB.out | apply below_alloc | apply pw_below_drewN | apply below_drew1 | refine below_set ?_ GE306.out | refine below_set ?_ GE313.out | refine below_set ?_ GE320.out) | exact HB.out)⟩⟩
  case rest =>
    clear HC5
    try clear c1
    try clear p2
    try clear c3
    try clear c4
    try clear c9
    try clear c13
    try clear c14
    try clear c16
    try clear c16b0
    try clear c16b1
    try clear hcz10_0
    try clear hcz10_1
    try clear hcz10_2
    try clear hcz10_3
    try clear hcz10_4
    try clear hcz15_0
    try clear hcz15_1
    try clear hcz15_2
    try clear hcz15_3
    try clear hcz15_4
    try clear hfz10_0
    try clear hfz10_1
    try clear hfz10_2
    try clear hfz10_3
    try clear hfz10_4
    try clear hfz15_0
    try clear hfz15_1
    try clear hfz15_2
    try clear hfz15_3
    try clear hfz15_4
    obtain ⟨kq, x26_4, rfl, HA, HJ4, BK306, BK313, BK320, HB⟩ := hcut
    cases kq with
    | zero => exact absurd HA.out (by simp [rollbookref04_Newest.j0])
    | succ kj4 =>
      have H := HA.out
      clear HA
      simp only [rollbookref04_Newest.j0] at H
      by_cases c17 : x26_4 = true
      · subst c17
        have H1 : (if t314 > t307 then (some (t314, t315, t316, t317, t318, 1, 0)) else (some (t307, t308, t309, t310, t311, 0, 0))) = some (r1, r2, r3, r4, r5, r6, r7) := by rw [if_pos rfl] at H; exact H
        clear H
        have H := H1
        clear H1
        by_cases c18 : t314 > t307
        · rw [if_pos c18] at H
          have c18b0 : decide (t307 < t314) = true := decide_eq_true c18
          clear c18
          simp only [Option.some.injEq, Prod.mk.injEq] at H
          obtain ⟨rfl, rfl, rfl, rfl, rfl, rfl, rfl⟩ := H
          have hnb19 := NB320_306.out
          have hnc19 := NB306_320.out
          have hnb20 := NB320_313.out
          have hnc20 := NB313_320.out
          have hcz21_0 : wc.cell? ⟨gb320, 0, none⟩ = some (.int .i64 t314) := (blk_cell BK320.out 0).trans rfl
          have hcz21_1 : wc.cell? ⟨gb320, 1, none⟩ = some (.int .i64 t315) := (blk_cell BK320.out 1).trans rfl
          have hcz21_2 : wc.cell? ⟨gb320, 2, none⟩ = some (.int .i64 t316) := (blk_cell BK320.out 2).trans rfl
          have hcz21_3 : wc.cell? ⟨gb320, 3, none⟩ = some (.int .i64 t317) := (blk_cell BK320.out 3).trans rfl
          have hcz21_4 : wc.cell? ⟨gb320, 4, none⟩ = some (.int .i64 t318) := (blk_cell BK320.out 4).trans rfl
          have hfz21_0 := blk_frozen BK320.out 0
          have hfz21_1 := blk_frozen BK320.out 1
          have hfz21_2 := blk_frozen BK320.out 2
          have hfz21_3 := blk_frozen BK320.out 3
          have hfz21_4 := blk_frozen BK320.out 4
          have hnb22 := NB313_306.out
          have hnc22 := NB306_313.out
          have hcz23_0 : wc.cell? ⟨gb313, 0, none⟩ = some (.int .i64 t307) := (blk_cell BK313.out 0).trans rfl
          have hcz23_1 : wc.cell? ⟨gb313, 1, none⟩ = some (.int .i64 t308) := (blk_cell BK313.out 1).trans rfl
          have hcz23_2 : wc.cell? ⟨gb313, 2, none⟩ = some (.int .i64 t309) := (blk_cell BK313.out 2).trans rfl
          have hcz23_3 : wc.cell? ⟨gb313, 3, none⟩ = some (.int .i64 t310) := (blk_cell BK313.out 3).trans rfl
          have hcz23_4 : wc.cell? ⟨gb313, 4, none⟩ = some (.int .i64 t311) := (blk_cell BK313.out 4).trans rfl
          have hfz23_0 := blk_frozen BK313.out 0
          have hfz23_1 := blk_frozen BK313.out 1
          have hfz23_2 := blk_frozen BK313.out 2
          have hfz23_3 := blk_frozen BK313.out 3
          have hfz23_4 := blk_frozen BK313.out 4
          have hcz24_0 : wc.cell? ⟨gb306, 0, none⟩ = some (.int .i64 0) := (blk_cell BK306.out 0).trans rfl
          have hcz24_1 : wc.cell? ⟨gb306, 1, none⟩ = some (.int .i64 0) := (blk_cell BK306.out 1).trans rfl
          have hcz24_2 : wc.cell? ⟨gb306, 2, none⟩ = some (.int .i64 0) := (blk_cell BK306.out 2).trans rfl
          have hcz24_3 : wc.cell? ⟨gb306, 3, none⟩ = some (.int .i64 0) := (blk_cell BK306.out 3).trans rfl
          have hcz24_4 : wc.cell? ⟨gb306, 4, none⟩ = some (.int .i64 0) := (blk_cell BK306.out 4).trans rfl
          have hfz24_0 := blk_frozen BK306.out 0
          have hfz24_1 := blk_frozen BK306.out 1
          have hfz24_2 := blk_frozen BK306.out 2
          have hfz24_3 := blk_frozen BK306.out 3
          have hfz24_4 := blk_frozen BK306.out 4
          go_wp2
          refine bodyPost_ret (results_ctt rfl _ _ gb306 46 #[.int .i64 t314, .int .i64 t315, .int .i64 t316, .int .i64 t317, .int .i64 t318] (0, 0) _ rfl (by (with_reducible repeat (first | refine blk_drewN ?_ _ | refine blk_drew ?_ | refine blk_alloc ?_ _)); refine blk_put (cs := #[.int .i64 t314, .int .i64 t315, .int .i64 t316, .int .i64 t317, .int .i64 0]) ?_ 4 _ rfl; (with_reducible repeat (first | refine blk_drewN ?_ _ | refine blk_drew ?_ | refine blk_alloc ?_ _)); refine blk_put (cs := #[.int .i64 t314, .int .i64 t315, .int .i64 t316, .int .i64 0, .int .i64 0]) ?_ 3 _ rfl; (with_reducible repeat (first | refine blk_drewN ?_ _ | refine blk_drew ?_ | refine blk_alloc ?_ _)); refine blk_put (cs := #[.int .i64 t314, .int .i64 t315, .int .i64 0, .int .i64 0, .int .i64 0]) ?_ 2 _ rfl; (with_reducible repeat (first | refine blk_drewN ?_ _ | refine blk_drew ?_ | refine blk_alloc ?_ _)); refine blk_put (cs := #[.int .i64 t314, .int .i64 0, .int .i64 0, .int .i64 0, .int .i64 0]) ?_ 1 _ rfl; (with_reducible repeat (first | refine blk_drewN ?_ _ | refine blk_drew ?_ | refine blk_alloc ?_ _)); refine blk_put (cs := #[.int .i64 0, .int .i64 0, .int .i64 0, .int .i64 0, .int .i64 0]) ?_ 0 _ rfl; (with_reducible repeat (first | refine blk_drewN ?_ _ | refine blk_drew ?_ | refine blk_alloc ?_ _)); exact BK306.out) Tryd.underlying46 rfl (by kernel_rfl)) rfl ?_
          exact ⟨by first | rfl | (simp [errW_none, errW_some] <;> rfl) | (simp [*, errW_none, errW_some] <;> rfl), by repeat (first | (with_reducible first | exact HB.out | apply below_alloc | apply pw_below_drewN | apply below_drew1 | refine below_set ?_ GE306.out | refine below_set ?_ GE313.out | refine below_set ?_ GE320.out) | exact HB.out)⟩
        · rw [if_neg c18] at H
          have c18b0 : decide (t307 < t314) = false := decide_eq_false c18
          clear c18
          simp only [Option.some.injEq, Prod.mk.injEq] at H
          obtain ⟨rfl, rfl, rfl, rfl, rfl, rfl, rfl⟩ := H
          have hnb25 := NB320_306.out
          have hnc25 := NB306_320.out
          have hnb26 := NB320_313.out
          have hnc26 := NB313_320.out
          have hcz27_0 : wc.cell? ⟨gb320, 0, none⟩ = some (.int .i64 t314) := (blk_cell BK320.out 0).trans rfl
          have hcz27_1 : wc.cell? ⟨gb320, 1, none⟩ = some (.int .i64 t315) := (blk_cell BK320.out 1).trans rfl
          have hcz27_2 : wc.cell? ⟨gb320, 2, none⟩ = some (.int .i64 t316) := (blk_cell BK320.out 2).trans rfl
          have hcz27_3 : wc.cell? ⟨gb320, 3, none⟩ = some (.int .i64 t317) := (blk_cell BK320.out 3).trans rfl
          have hcz27_4 : wc.cell? ⟨gb320, 4, none⟩ = some (.int .i64 t318) := (blk_cell BK320.out 4).trans rfl
          have hfz27_0 := blk_frozen BK320.out 0
          have hfz27_1 := blk_frozen BK320.out 1
          have hfz27_2 := blk_frozen BK320.out 2
          have hfz27_3 := blk_frozen BK320.out 3
          have hfz27_4 := blk_frozen BK320.out 4
          have hnb28 := NB313_306.out
          have hnc28 := NB306_313.out
          have hcz29_0 : wc.cell? ⟨gb313, 0, none⟩ = some (.int .i64 t307) := (blk_cell BK313.out 0).trans rfl
          have hcz29_1 : wc.cell? ⟨gb313, 1, none⟩ = some (.int .i64 t308) := (blk_cell BK313.out 1).trans rfl
          have hcz29_2 : wc.cell? ⟨gb313, 2, none⟩ = some (.int .i64 t309) := (blk_cell BK313.out 2).trans rfl
          have hcz29_3 : wc.cell? ⟨gb313, 3, none⟩ = some (.int .i64 t310) := (blk_cell BK313.out 3).trans rfl
          have hcz29_4 : wc.cell? ⟨gb313, 4, none⟩ = some (.int .i64 t311) := (blk_cell BK313.out 4).trans rfl
          have hfz29_0 := blk_frozen BK313.out 0
          have hfz29_1 := blk_frozen BK313.out 1
          have hfz29_2 := blk_frozen BK313.out 2
          have hfz29_3 := blk_frozen BK313.out 3
          have hfz29_4 := blk_frozen BK313.out 4
          have hcz30_0 : wc.cell? ⟨gb306, 0, none⟩ = some (.int .i64 0) := (blk_cell BK306.out 0).trans rfl
          have hcz30_1 : wc.cell? ⟨gb306, 1, none⟩ = some (.int .i64 0) := (blk_cell BK306.out 1).trans rfl
          have hcz30_2 : wc.cell? ⟨gb306, 2, none⟩ = some (.int .i64 0) := (blk_cell BK306.out 2).trans rfl
          have hcz30_3 : wc.cell? ⟨gb306, 3, none⟩ = some (.int .i64 0) := (blk_cell BK306.out 3).trans rfl
          have hcz30_4 : wc.cell? ⟨gb306, 4, none⟩ = some (.int .i64 0) := (blk_cell BK306.out 4).trans rfl
          have hfz30_0 := blk_frozen BK306.out 0
          have hfz30_1 := blk_frozen BK306.out 1
          have hfz30_2 := blk_frozen BK306.out 2
          have hfz30_3 := blk_frozen BK306.out 3
          have hfz30_4 := blk_frozen BK306.out 4
          go_wp2
          refine bodyPost_ret (results_ctt rfl _ _ gb306 46 #[.int .i64 t307, .int .i64 t308, .int .i64 t309, .int .i64 t310, .int .i64 t311] (0, 0) _ rfl (by (with_reducible repeat (first | refine blk_drewN ?_ _ | refine blk_drew ?_ | refine blk_alloc ?_ _)); refine blk_put (cs := #[.int .i64 t307, .int .i64 t308, .int .i64 t309, .int .i64 t310, .int .i64 0]) ?_ 4 _ rfl; (with_reducible repeat (first | refine blk_drewN ?_ _ | refine blk_drew ?_ | refine blk_alloc ?_ _)); refine blk_put (cs := #[.int .i64 t307, .int .i64 t308, .int .i64 t309, .int .i64 0, .int .i64 0]) ?_ 3 _ rfl; (with_reducible repeat (first | refine blk_drewN ?_ _ | refine blk_drew ?_ | refine blk_alloc ?_ _)); refine blk_put (cs := #[.int .i64 t307, .int .i64 t308, .int .i64 0, .int .i64 0, .int .i64 0]) ?_ 2 _ rfl; (with_reducible repeat (first | refine blk_drewN ?_ _ | refine blk_drew ?_ | refine blk_alloc ?_ _)); refine blk_put (cs := #[.int .i64 t307, .int .i64 0, .int .i64 0, .int .i64 0, .int .i64 0]) ?_ 1 _ rfl; (with_reducible repeat (first | refine blk_drewN ?_ _ | refine blk_drew ?_ | refine blk_alloc ?_ _)); refine blk_put (cs := #[.int .i64 0, .int .i64 0, .int .i64 0, .int .i64 0, .int .i64 0]) ?_ 0 _ rfl; (with_reducible repeat (first | refine blk_drewN ?_ _ | refine blk_drew ?_ | refine blk_alloc ?_ _)); exact BK306.out) Tryd.underlying46 rfl (by kernel_rfl)) rfl ?_
          exact ⟨by first | rfl | (simp [errW_none, errW_some] <;> rfl) | (simp [*, errW_none, errW_some] <;> rfl), by repeat (first | (with_reducible first | exact HB.out | apply below_alloc | apply pw_below_drewN | apply below_drew1 | refine below_set ?_ GE306.out | refine below_set ?_ GE313.out | refine below_set ?_ GE320.out) | exact HB.out)⟩
      · replace c17 := Bool.eq_false_iff.mpr c17
        subst c17
        have H1 : (if t312 = 0 then (some (t307, t308, t309, t310, t311, 0, 0)) else (if t319 = 0 then (some (t314, t315, t316, t317, t318, 1, 0)) else (some (0, 0, 0, 0, 0, 0, 4)))) = some (r1, r2, r3, r4, r5, r6, r7) := by rw [if_neg (show ¬ (false = true) by decide)] at H; exact H
        clear H
        have H := H1
        clear H1
        by_cases c31 : t312 = 0
        · rw [if_pos c31] at H
          have c31b0 : (t312 == 0) = true := beq_iff_eq.mpr c31
          have c31b1 : (t312 != 0) = false := bne_eq_false_iff_eq.mpr c31
          clear c31
          simp only [Option.some.injEq, Prod.mk.injEq] at H
          obtain ⟨rfl, rfl, rfl, rfl, rfl, rfl, rfl⟩ := H
          have hnb32 := NB313_306.out
          have hnc32 := NB306_313.out
          have hnb33 := NB313_320.out
          have hnc33 := NB320_313.out
          have hcz34_0 : wc.cell? ⟨gb313, 0, none⟩ = some (.int .i64 t307) := (blk_cell BK313.out 0).trans rfl
          have hcz34_1 : wc.cell? ⟨gb313, 1, none⟩ = some (.int .i64 t308) := (blk_cell BK313.out 1).trans rfl
          have hcz34_2 : wc.cell? ⟨gb313, 2, none⟩ = some (.int .i64 t309) := (blk_cell BK313.out 2).trans rfl
          have hcz34_3 : wc.cell? ⟨gb313, 3, none⟩ = some (.int .i64 t310) := (blk_cell BK313.out 3).trans rfl
          have hcz34_4 : wc.cell? ⟨gb313, 4, none⟩ = some (.int .i64 t311) := (blk_cell BK313.out 4).trans rfl
          have hfz34_0 := blk_frozen BK313.out 0
          have hfz34_1 := blk_frozen BK313.out 1
          have hfz34_2 := blk_frozen BK313.out 2
          have hfz34_3 := blk_frozen BK313.out 3
          have hfz34_4 := blk_frozen BK313.out 4
          have hnb35 := NB306_320.out
          have hnc35 := NB320_306.out
          have hcz36_0 : wc.cell? ⟨gb306, 0, none⟩ = some (.int .i64 0) := (blk_cell BK306.out 0).trans rfl
          have hcz36_1 : wc.cell? ⟨gb306, 1, none⟩ = some (.int .i64 0) := (blk_cell BK306.out 1).trans rfl
          have hcz36_2 : wc.cell? ⟨gb306, 2, none⟩ = some (.int .i64 0) := (blk_cell BK306.out 2).trans rfl
          have hcz36_3 : wc.cell? ⟨gb306, 3, none⟩ = some (.int .i64 0) := (blk_cell BK306.out 3).trans rfl
          have hcz36_4 : wc.cell? ⟨gb306, 4, none⟩ = some (.int .i64 0) := (blk_cell BK306.out 4).trans rfl
          have hfz36_0 := blk_frozen BK306.out 0
          have hfz36_1 := blk_frozen BK306.out 1
          have hfz36_2 := blk_frozen BK306.out 2
          have hfz36_3 := blk_frozen BK306.out 3
          have hfz36_4 := blk_frozen BK306.out 4
          go_wp2
          refine bodyPost_ret (results_ctt rfl _ _ gb306 46 #[.int .i64 t307, .int .i64 t308, .int .i64 t309, .int .i64 t310, .int .i64 t311] (0, 0) _ rfl (by (with_reducible repeat (first | refine blk_drewN ?_ _ | refine blk_drew ?_ | refine blk_alloc ?_ _)); refine blk_put (cs := #[.int .i64 t307, .int .i64 t308, .int .i64 t309, .int .i64 t310, .int .i64 0]) ?_ 4 _ rfl; (with_reducible repeat (first | refine blk_drewN ?_ _ | refine blk_drew ?_ | refine blk_alloc ?_ _)); refine blk_put (cs := #[.int .i64 t307, .int .i64 t308, .int .i64 t309, .int .i64 0, .int .i64 0]) ?_ 3 _ rfl; (with_reducible repeat (first | refine blk_drewN ?_ _ | refine blk_drew ?_ | refine blk_alloc ?_ _)); refine blk_put (cs := #[.int .i64 t307, .int .i64 t308, .int .i64 0, .int .i64 0, .int .i64 0]) ?_ 2 _ rfl; (with_reducible repeat (first | refine blk_drewN ?_ _ | refine blk_drew ?_ | refine blk_alloc ?_ _)); refine blk_put (cs := #[.int .i64 t307, .int .i64 0, .int .i64 0, .int .i64 0, .int .i64 0]) ?_ 1 _ rfl; (with_reducible repeat (first | refine blk_drewN ?_ _ | refine blk_drew ?_ | refine blk_alloc ?_ _)); refine blk_put (cs := #[.int .i64 0, .int .i64 0, .int .i64 0, .int .i64 0, .int .i64 0]) ?_ 0 _ rfl; (with_reducible repeat (first | refine blk_drewN ?_ _ | refine blk_drew ?_ | refine blk_alloc ?_ _)); exact BK306.out) Tryd.underlying46 rfl (by kernel_rfl)) rfl ?_
          exact ⟨by first | rfl | (simp [errW_none, errW_some] <;> rfl) | (simp [*, errW_none, errW_some] <;> rfl), by repeat (first | (with_reducible first | exact HB.out | apply below_alloc | apply pw_below_drewN | apply below_drew1 | refine below_set ?_ GE306.out | refine below_set ?_ GE313.out | refine below_set ?_ GE320.out) | exact HB.out)⟩
        · rw [if_neg c31] at H
          have c31b0 : (t312 == 0) = false := beq_eq_false_iff_ne.mpr c31
          have c31b1 : (t312 != 0) = true := bne_iff_ne.mpr c31
          by_cases c37 : t319 = 0
          · rw [if_pos c37] at H
            have c37b0 : (t319 == 0) = true := beq_iff_eq.mpr c37
            have c37b1 : (t319 != 0) = false := bne_eq_false_iff_eq.mpr c37
            clear c37
            simp only [Option.some.injEq, Prod.mk.injEq] at H
            obtain ⟨rfl, rfl, rfl, rfl, rfl, rfl, rfl⟩ := H
            have hnb38 := NB320_306.out
            have hnc38 := NB306_320.out
            have hnb39 := NB320_313.out
            have hnc39 := NB313_320.out
            have hcz40_0 : wc.cell? ⟨gb320, 0, none⟩ = some (.int .i64 t314) := (blk_cell BK320.out 0).trans rfl
            have hcz40_1 : wc.cell? ⟨gb320, 1, none⟩ = some (.int .i64 t315) := (blk_cell BK320.out 1).trans rfl
            have hcz40_2 : wc.cell? ⟨gb320, 2, none⟩ = some (.int .i64 t316) := (blk_cell BK320.out 2).trans rfl
            have hcz40_3 : wc.cell? ⟨gb320, 3, none⟩ = some (.int .i64 t317) := (blk_cell BK320.out 3).trans rfl
            have hcz40_4 : wc.cell? ⟨gb320, 4, none⟩ = some (.int .i64 t318) := (blk_cell BK320.out 4).trans rfl
            have hfz40_0 := blk_frozen BK320.out 0
            have hfz40_1 := blk_frozen BK320.out 1
            have hfz40_2 := blk_frozen BK320.out 2
            have hfz40_3 := blk_frozen BK320.out 3
            have hfz40_4 := blk_frozen BK320.out 4
            have hnb41 := NB306_313.out
            have hnc41 := NB313_306.out
            have hcz42_0 : wc.cell? ⟨gb306, 0, none⟩ = some (.int .i64 0) := (blk_cell BK306.out 0).trans rfl
            have hcz42_1 : wc.cell? ⟨gb306, 1, none⟩ = some (.int .i64 0) := (blk_cell BK306.out 1).trans rfl
            have hcz42_2 : wc.cell? ⟨gb306, 2, none⟩ = some (.int .i64 0) := (blk_cell BK306.out 2).trans rfl
            have hcz42_3 : wc.cell? ⟨gb306, 3, none⟩ = some (.int .i64 0) := (blk_cell BK306.out 3).trans rfl
            have hcz42_4 : wc.cell? ⟨gb306, 4, none⟩ = some (.int .i64 0) := (blk_cell BK306.out 4).trans rfl
            have hfz42_0 := blk_frozen BK306.out 0
            have hfz42_1 := blk_frozen BK306.out 1
            have hfz42_2 := blk_frozen BK306.out 2
            have hfz42_3 := blk_frozen BK306.out 3
            have hfz42_4 := blk_frozen BK306.out 4
            go_wp2
            refine bodyPost_ret (results_ctt rfl _ _ gb306 46 #[.int .i64 t314, .int .i64 t315, .int .i64 t316, .int .i64 t317, .int .i64 t318] (0, 0) _ rfl (by (with_reducible repeat (first | refine blk_drewN ?_ _ | refine blk_drew ?_ | refine blk_alloc ?_ _)); refine blk_put (cs := #[.int .i64 t314, .int .i64 t315, .int .i64 t316, .int .i64 t317, .int .i64 0]) ?_ 4 _ rfl; (with_reducible repeat (first | refine blk_drewN ?_ _ | refine blk_drew ?_ | refine blk_alloc ?_ _)); refine blk_put (cs := #[.int .i64 t314, .int .i64 t315, .int .i64 t316, .int .i64 0, .int .i64 0]) ?_ 3 _ rfl; (with_reducible repeat (first | refine blk_drewN ?_ _ | refine blk_drew ?_ | refine blk_alloc ?_ _)); refine blk_put (cs := #[.int .i64 t314, .int .i64 t315, .int .i64 0, .int .i64 0, .int .i64 0]) ?_ 2 _ rfl; (with_reducible repeat (first | refine blk_drewN ?_ _ | refine blk_drew ?_ | refine blk_alloc ?_ _)); refine blk_put (cs := #[.int .i64 t314, .int .i64 0, .int .i64 0, .int .i64 0, .int .i64 0]) ?_ 1 _ rfl; (with_reducible repeat (first | refine blk_drewN ?_ _ | refine blk_drew ?_ | refine blk_alloc ?_ _)); refine blk_put (cs := #[.int .i64 0, .int .i64 0, .int .i64 0, .int .i64 0, .int .i64 0]) ?_ 0 _ rfl; (with_reducible repeat (first | refine blk_drewN ?_ _ | refine blk_drew ?_ | refine blk_alloc ?_ _)); exact BK306.out) Tryd.underlying46 rfl (by kernel_rfl)) rfl ?_
            exact ⟨by first | rfl | (simp [errW_none, errW_some] <;> rfl) | (simp [*, errW_none, errW_some] <;> rfl), by repeat (first | (with_reducible first | exact HB.out | apply below_alloc | apply pw_below_drewN | apply below_drew1 | refine below_set ?_ GE306.out | refine below_set ?_ GE313.out | refine below_set ?_ GE320.out) | exact HB.out)⟩
          · rw [if_neg c37] at H
            have c37b0 : (t319 == 0) = false := beq_eq_false_iff_ne.mpr c37
            have c37b1 : (t319 != 0) = true := bne_iff_ne.mpr c37
            simp only [Option.some.injEq, Prod.mk.injEq] at H
            obtain ⟨rfl, rfl, rfl, rfl, rfl, rfl, rfl⟩ := H
            have hnb43 := NB306_313.out
            have hnc43 := NB313_306.out
            have hnb44 := NB306_320.out
            have hnc44 := NB320_306.out
            have hcz45_0 : wc.cell? ⟨gb306, 0, none⟩ = some (.int .i64 0) := (blk_cell BK306.out 0).trans rfl
            have hcz45_1 : wc.cell? ⟨gb306, 1, none⟩ = some (.int .i64 0) := (blk_cell BK306.out 1).trans rfl
            have hcz45_2 : wc.cell? ⟨gb306, 2, none⟩ = some (.int .i64 0) := (blk_cell BK306.out 2).trans rfl
            have hcz45_3 : wc.cell? ⟨gb306, 3, none⟩ = some (.int .i64 0) := (blk_cell BK306.out 3).trans rfl
            have hcz45_4 : wc.cell? ⟨gb306, 4, none⟩ = some (.int .i64 0) := (blk_cell BK306.out 4).trans rfl
            have hfz45_0 := blk_frozen BK306.out 0
            have hfz45_1 := blk_frozen BK306.out 1
            have hfz45_2 := blk_frozen BK306.out 2
            have hfz45_3 := blk_frozen BK306.out 3
            have hfz45_4 := blk_frozen BK306.out 4
            go_wp2
            refine bodyPost_ret (results_ctt rfl _ _ gb306 46 #[.int .i64 0, .int .i64 0, .int .i64 0, .int .i64 0, .int .i64 0] (0, 0) _ rfl (by (with_reducible repeat (first | refine blk_drewN ?_ _ | refine blk_drew ?_ | refine blk_alloc ?_ _)); refine blk_put (cs := #[.int .i64 0, .int .i64 0, .int .i64 0, .int .i64 0, .int .i64 0]) ?_ 4 _ rfl; (with_reducible repeat (first | refine blk_drewN ?_ _ | refine blk_drew ?_ | refine blk_alloc ?_ _)); refine blk_put (cs := #[.int .i64 0, .int .i64 0, .int .i64 0, .int .i64 0, .int .i64 0]) ?_ 3 _ rfl; (with_reducible repeat (first | refine blk_drewN ?_ _ | refine blk_drew ?_ | refine blk_alloc ?_ _)); refine blk_put (cs := #[.int .i64 0, .int .i64 0, .int .i64 0, .int .i64 0, .int .i64 0]) ?_ 2 _ rfl; (with_reducible repeat (first | refine blk_drewN ?_ _ | refine blk_drew ?_ | refine blk_alloc ?_ _)); refine blk_put (cs := #[.int .i64 0, .int .i64 0, .int .i64 0, .int .i64 0, .int .i64 0]) ?_ 1 _ rfl; (with_reducible repeat (first | refine blk_drewN ?_ _ | refine blk_drew ?_ | refine blk_alloc ?_ _)); refine blk_put (cs := #[.int .i64 0, .int .i64 0, .int .i64 0, .int .i64 0, .int .i64 0]) ?_ 0 _ rfl; (with_reducible repeat (first | refine blk_drewN ?_ _ | refine blk_drew ?_ | refine blk_alloc ?_ _)); exact BK306.out) Tryd.underlying46 rfl (by kernel_rfl)) rfl ?_
            exact ⟨by first | rfl | (simp [errW_none, errW_some] <;> rfl) | (simp [*, errW_none, errW_some] <;> rfl), by repeat (first | (with_reducible first | exact HB.out | apply below_alloc | apply pw_below_drewN | apply below_drew1 | refine below_set ?_ GE306.out | refine below_set ?_ GE313.out | refine below_set ?_ GE320.out) | exact HB.out)⟩

end Go.Proofs.YtcoddeemfdnjpaaDoor.Fn
