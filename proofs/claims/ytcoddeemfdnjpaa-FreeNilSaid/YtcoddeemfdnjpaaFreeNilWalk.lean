/- The walk of FreeNil: the methods of a list that is not there. -/
import Derived.Test.YtcoddeemfdnjpaaFreeAwake
namespace Go.Proofs.Ytcoddeemfdnjpaa.Free
open Go.RowKit Go.Lib Go.Proofs.Ytcoddeemfdnjpaa.Fn
set_option maxHeartbeats 800000 in
set_option maxRecDepth 100000 in
theorem add_nil (w : World) (x y : Int) : Calls Try.prog 11 #[.pointer none, .agg #[.int .i64 x, .int .i64 y]] w fun e w' => e = .returned (.int .i64 2) ∧ Below w.heap.size w w' := by
  have B1 := Lib.hid ((Below.refl w.heap.size w).alloc (Nat.le_refl _) (Obj.cells #[.int .i64 x, .int .i64 y] 28))
  go_enter Try.func11, Try.ntmps11
  go_wp2
  go_ret
  exact ⟨rfl, B1.out⟩
set_option maxHeartbeats 800000 in
set_option maxRecDepth 100000 in
theorem has_nil (w : World) (n : Int) : Calls Try.prog 18 #[.pointer none, .int .i64 n] w fun e w' => e = .returned (.bool false) ∧ w' = w := by
  go_enter Try.func18, Try.ntmps18
  go_wp2
  go_ret
  exact ⟨rfl, rfl⟩
set_option maxHeartbeats 800000 in
set_option maxRecDepth 100000 in
theorem count_nil (w : World) : Calls Try.prog 20 #[.pointer none] w fun e w' => e = .returned (.int .i64 0) ∧ w' = w := by
  go_enter Try.func20, Try.ntmps20
  go_wp2
  go_ret
  exact ⟨rfl, rfl⟩
set_option maxHeartbeats 800000 in
set_option maxRecDepth 100000 in
theorem all_nil (w : World) : Calls Try.prog 22 #[.pointer none] w fun e w' => e = .returned (.slice none 0 0) ∧ w' = w := by
  go_enter Try.func22, Try.ntmps22
  go_wp2
  go_ret
  exact ⟨rfl, rfl⟩
set_option maxHeartbeats 800000 in
set_option maxRecDepth 100000 in
theorem copy_nil (w : World) : Calls Try.prog 17 #[.pointer none] w fun e w' => e = .returned (.pointer none) ∧ w' = w := by
  go_enter Try.func17, Try.ntmps17
  go_wp2
  go_ret
  exact ⟨rfl, rfl⟩
set_option maxHeartbeats 800000 in
set_option maxRecDepth 100000 in
theorem nil_walk (x y n : Int) (w : World) : Calls Try.prog 6 #[.agg #[.int .i64 x, .int .i64 y], .int .i64 n] w fun e w' => e = .returned (.bool true) ∧ Below w.heap.size w w' := by
  obtain ⟨w1, hw1⟩ : ∃ w1, w1 = w.alloc (.cells #[.int .i64 x, .int .i64 y] 28) := ⟨_, rfl⟩
  have B1 := Lib.hid (show Below w.heap.size w w1 by rw [hw1]; exact (Below.refl w.heap.size w).alloc (Nat.le_refl _) _)
  have z1 := Lib.hid (show w1.heap.size = w.heap.size + 1 by rw [hw1]; simp)
  have t0 := Lib.hid (show w1.cell? ⟨w.heap.size, 0, none⟩ = some (.int .i64 x) by rw [hw1, World.cell?_alloc_at _ _ _ _ rfl]; rfl)
  have t1 := Lib.hid (show w1.cell? ⟨w.heap.size, 1, none⟩ = some (.int .i64 y) by rw [hw1, World.cell?_alloc_at _ _ _ _ rfl]; rfl)
  have hw1' := Lib.hid hw1
  clear hw1
  have ha := Lib.hid (awake_any w1)
  have hA := Lib.hid (fun w => add_nil w x y)
  have hT := Lib.hid (fun w => take_nil w n)
  have hH := Lib.hid (fun w => has_nil w n)
  have hC := Lib.hid count_nil
  have hL := Lib.hid all_nil
  have hY := Lib.hid copy_nil
  go_enter Try.func6, Try.ntmps6
  go_wp2_with fail
  rw [← hw1'.out]
  clear hw1'
  refine ha.out.mono ?_
  rintro e w2 ⟨rfl, hb2⟩
  have B2 := Lib.hid (B1.out.trans (hb2.mono B1.out.size))
  have c0 : w2.cell? ⟨w.heap.size, 0, none⟩ = some (.int .i64 x) := by rw [hb2.cell (by rw [z1.out]; exact Nat.lt_succ_self _)]; exact t0.out
  have c1 : w2.cell? ⟨w.heap.size, 1, none⟩ = some (.int .i64 y) := by rw [hb2.cell (by rw [z1.out]; exact Nat.lt_succ_self _)]; exact t1.out
  clear hb2
  go_wp2_with fail
  refine (hT.out _).mono ?_
  rintro e w3 ⟨rfl, rfl⟩
  go_wp2_with fail
  refine (hA.out _).mono ?_
  rintro e w3 ⟨rfl, hb3⟩
  have B3 := Lib.hid (B2.out.trans (hb3.mono B2.out.size))
  clear hb3
  go_wp2_with fail
  refine (hH.out _).mono ?_
  rintro e w4 ⟨rfl, rfl⟩
  go_wp2_with fail
  refine (hC.out _).mono ?_
  rintro e w4 ⟨rfl, rfl⟩
  go_wp2_with fail
  refine (hL.out _).mono ?_
  rintro e w4 ⟨rfl, rfl⟩
  go_wp2_with fail
  refine (hY.out _).mono ?_
  rintro e w4 ⟨rfl, rfl⟩
  go_wp2
  go_ret
  exact ⟨rfl, B3.out⟩
#print axioms nil_walk
end Go.Proofs.Ytcoddeemfdnjpaa.Free
