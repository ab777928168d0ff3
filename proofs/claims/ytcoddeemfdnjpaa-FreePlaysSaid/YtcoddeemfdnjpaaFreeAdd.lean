/- List.Add: the ways on which nothing is added. -/
import Derived.Test.YtcoddeemfdnjpaaFreeList
namespace Go.Proofs.Ytcoddeemfdnjpaa.Free
open Go.RowKit Go.Lib Go.Proofs.Ytcoddeemfdnjpaa.Fn
theorem right_any (f : S28) (w : World) : Calls Try.prog 28 #[.agg #[.int .i64 f.f0, .int .i64 f.f1]] w fun e w' => e = .returned (.bool (decide (right f))) ∧ Below w.heap.size w w' :=
  free_right.calls f.f0 f.f1 _ w (by
    unfold free_right.f
    by_cases h1 : 0 ≤ f.f0
    · by_cases h2 : f.f0 ≤ 1099511627776
      · by_cases h3 : 1 ≤ f.f1
        · simp [h1, h2, h3, right]
        · simp [h1, h2, h3, right]
      · simp [h1, h2, right]
    · simp [h1, right])
/-- what 'Add' makes of a list, and tells -/
def addL (l : List S28) (f : S28) : List S28 := if right f ∧ isIn l f.f1.toNat = false then ins l (pos l f) f else l
def addE (l : List S28) (f : S28) : Int := if right f then (if isIn l f.f1.toNat = true then 8 else 0) else 1
/-- but for b and the blocks of 'ok' all is as it was -/
structure Kept (ok : Nat → Prop) (b : Nat) (w w' : World) : Prop where
  os : w'.os = w.os
  tape : w'.tape = w.tape
  output : w'.output = w.output
  size : w.heap.size ≤ w'.heap.size
  block : ∀ k, k < w.heap.size → k ≠ b → ¬ ok k → w'.heap[k]? = w.heap[k]?
theorem Kept.trans {ok : Nat → Prop} {b : Nat} {u v w : World} (h : Kept ok b u v) (k : Kept ok b v w) : Kept ok b u w :=
  ⟨k.os.trans h.os, k.tape.trans h.tape, k.output.trans h.output, Nat.le_trans h.size k.size, fun i hi h1 h2 => (k.block i (Nat.lt_of_lt_of_le hi h.size) h1 h2).trans (h.block i hi h1 h2)⟩
theorem Kept.of_below {ok : Nat → Prop} {b : Nat} {w w' : World} (h : Below w.heap.size w w') : Kept ok b w w' := ⟨h.os, h.tape, h.output, h.size, fun k hk _ _ => h.block k hk⟩
theorem Kept.of_grown {ok : Nat → Prop} {b : Nat} {w w' : World} {r : Option Nat} (h : w.grownBy w' r) (hr : ∀ k, r = some k → k < w.heap.size → ok k ∨ k = b) : Kept ok b w w' :=
  ⟨h.os, h.tape, h.output, h.size, fun k hk h1 h2 => h.block k hk (fun e => (hr k e.symm hk).elim h2 h1)⟩
theorem ListAt.below {w w' : World} {b : Nat} {ok : Nat → Prop} {l : List S28} (h : ListAt w b ok l) (hb : Below w.heap.size w w') : ListAt w' b ok l :=
  h.keep (hb.block b h.lt) (fun k hk hlt => ⟨hb.block k hlt, hk⟩) h.notok
def AddSt (ok : Nat → Prop) (b : Nat) (l : List S28) (f : S28) (w : World) (e : Ending) (w' : World) : Prop :=
  e = .returned (.int .i64 (addE l f)) ∧ ListAt w' b ok (addL l f) ∧ Kept ok b w w'
set_option maxHeartbeats 800000 in
set_option maxRecDepth 100000 in
theorem add_bad (w : World) (b : Nat) (f : S28) (h : ¬ right f) :
    Calls Try.prog 11 #[.pointer (some ⟨b, 0, none⟩), .agg #[.int .i64 f.f0, .int .i64 f.f1]] w fun e w' => e = .returned (.int .i64 1) ∧ Below w.heap.size w w' := by
  have hr := Lib.hid (fun w => right_any f w)
  have hd : decide (right f) = false := decide_eq_false h
  rw [hd] at hr
  have B1 := Lib.hid ((Below.refl w.heap.size w).alloc (Nat.le_refl _) (Obj.cells #[.int .i64 f.f0, .int .i64 f.f1] 28))
  clear h hd
  go_enter Try.func11, Try.ntmps11
  go_wp2_with fail
  refine (hr.out _).mono ?_
  rintro e w2 ⟨rfl, hb2⟩
  have B2 := Lib.hid (B1.out.trans (hb2.mono B1.out.size))
  clear hb2
  go_wp2
  go_ret
  exact ⟨rfl, B2.out⟩
set_option maxHeartbeats 800000 in
set_option maxRecDepth 100000 in
theorem add_there (w : World) (b p : Nat) (f : S28) (h : right f) (hp : f.f1 = (p : Int)) (hb : b < w.heap.size) (hc : w.cell? ⟨b, 1 + p, none⟩ = some (.bool true)) :
    Calls Try.prog 11 #[.pointer (some ⟨b, 0, none⟩), .agg #[.int .i64 f.f0, .int .i64 f.f1]] w fun e w' => e = .returned (.int .i64 8) ∧ Below w.heap.size w w' := by
  have hr := Lib.hid (fun w => right_any f w)
  have hd : decide (right f) = true := decide_eq_true h
  rw [hd] at hr
  have hp5 : p < 512 := by unfold right at h; omega
  have hp6 : (p : Int) < 512 := by omega
  obtain ⟨w1, hw1⟩ : ∃ w1, w1 = w.alloc (.cells #[.int .i64 f.f0, .int .i64 f.f1] 28) := ⟨_, rfl⟩
  have B1 := Lib.hid (show Below w.heap.size w w1 by rw [hw1]; exact (Below.refl w.heap.size w).alloc (Nat.le_refl _) _)
  have z1 := Lib.hid (show w1.heap.size = w.heap.size + 1 by rw [hw1]; simp)
  have t0 := Lib.hid (show w1.cell? ⟨w.heap.size, 0, none⟩ = some (.int .i64 f.f0) by rw [hw1, World.cell?_alloc_at _ _ _ _ rfl]; rfl)
  have t1 := Lib.hid (show w1.cell? ⟨w.heap.size, 1, none⟩ = some (.int .i64 (p : Int)) by rw [hw1, World.cell?_alloc_at _ _ _ _ rfl, ← hp]; rfl)
  have hw1' := Lib.hid hw1
  have hc' := Lib.hid hc
  clear h hd hc hp
  go_enter Try.func11, Try.ntmps11
  go_wp2_with fail
  rw [← hw1'.out]
  clear hw1' hw1
  refine (hr.out _).mono ?_
  rintro e w2 ⟨rfl, hb2⟩
  have B2 := Lib.hid (B1.out.trans (hb2.mono B1.out.size))
  have c0 : w2.cell? ⟨w.heap.size, 0, none⟩ = some (.int .i64 f.f0) := by rw [hb2.cell (by rw [z1.out]; exact Nat.lt_succ_self _)]; exact t0.out
  have c1 : w2.cell? ⟨w.heap.size, 1, none⟩ = some (.int .i64 (p : Int)) := by rw [hb2.cell (by rw [z1.out]; exact Nat.lt_succ_self _)]; exact t1.out
  have c2 : w2.cell? ⟨b, 1 + p, none⟩ = some (.bool true) := by rw [B2.out.cell hb]; exact hc'.out
  clear hb2
  go_wp2_with fail
  go_quiet (fail)
  go_wp2
  go_ret
  exact ⟨rfl, below_drewN nq B2.out⟩
end Go.Proofs.Ytcoddeemfdnjpaa.Free
