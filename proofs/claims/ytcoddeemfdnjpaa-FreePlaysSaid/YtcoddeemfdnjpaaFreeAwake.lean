/- The example that each statement of layer 8 asks first. -/
import Derived.Test.YtcoddeemfdnjpaaFreeTake
namespace Go.Proofs.Ytcoddeemfdnjpaa.Free
open Go.RowKit Go.Lib Go.Proofs.Ytcoddeemfdnjpaa.Fn
theorem kept_below {ok : Nat → Prop} {b : Nat} {w0 w w' : World} (h : Below w0.heap.size w0 w) (k : Kept ok b w w') (hb : w0.heap.size ≤ b) (hok : ∀ j, ok j → w0.heap.size ≤ j) : Below w0.heap.size w0 w' :=
  ⟨k.os.trans h.os, k.tape.trans h.tape, k.output.trans h.output, Nat.le_trans h.size k.size, fun i hi => (k.block i (Nat.lt_of_lt_of_le hi h.size) (by omega) (fun e => by have := hok i e; omega)).trans (h.block i hi)⟩
theorem aw1 : addL [] ⟨7, 3⟩ = [⟨7, 3⟩] := by simp [addL, right, isIn, ins]
theorem aw2 : addL [⟨7, 3⟩] ⟨5, 9⟩ = [⟨5, 9⟩, ⟨7, 3⟩] := by simp [addL, right, isIn, ins, pos, ltF]
theorem ae1 : addE [] ⟨7, 3⟩ = 0 := by simp [addE, right, isIn]
theorem ae2 : addE [⟨7, 3⟩] ⟨5, 9⟩ = 0 := by simp [addE, right, isIn]
set_option maxHeartbeats 800000 in
set_option maxRecDepth 100000 in
theorem awake_any (w : World) : Calls Try.prog 9 #[] w fun e w' => e = .returned (.bool true) ∧ Below w.heap.size w w' := by
  obtain ⟨w1, hw1⟩ : ∃ w1, w1 = w.alloc (.cells newCells 55) := ⟨_, rfl⟩
  have hnew := Lib.hid (new_any w)
  rw [← hw1] at hnew
  have hl1 := Lib.hid (show ListAt w1 w.heap.size (fun k => w.heap.size < k) [] by rw [hw1]; exact new_list w _ (Nat.lt_irrefl _))
  have B1 := Lib.hid (show Below w.heap.size w w1 by rw [hw1]; exact (Below.refl _ _).alloc (Nat.le_refl _) _)
  have z1 := Lib.hid (show w1.heap.size = w.heap.size + 1 by rw [hw1]; simp)
  clear hw1
  obtain ⟨b, hb⟩ : ∃ b, b = w.heap.size := ⟨_, rfl⟩
  have hok := Lib.hid (fun (u : World) (hu : w1.heap.size ≤ u.heap.size) (k : Nat) (hk : u.heap.size ≤ k) => (by rw [z1.out] at hu; show w.heap.size < k; omega : (fun k => w.heap.size < k) k))
  have hA := Lib.hid (fun (l : List S28) (f : S28) (u : World) (hl : ListAt u w.heap.size (fun k => w.heap.size < k) l) (hu : w1.heap.size ≤ u.heap.size) => add_any u (fun k => w.heap.size < k) w.heap.size l f hl (hok.out u hu))
  have hT := Lib.hid (fun (l : List S28) (n : Int) (u : World) (hl : ListAt u w.heap.size (fun k => w.heap.size < k) l) => take_any u (fun k => w.heap.size < k) w.heap.size l n hl)
  go_enter Try.func9, Try.ntmps9
  go_wp2_with fail
  refine hnew.out.mono ?_
  rintro e w' ⟨rfl, rfl⟩
  go_wp2_with fail
  refine (hA.out [] ⟨7, 3⟩ _ hl1.out (Nat.le_refl _)).mono ?_
  rintro e w2 ⟨rfl, hl2, hk2⟩
  rw [aw1] at hl2
  rw [ae1]
  have hl2' := Lib.hid hl2
  have hk2' := Lib.hid hk2
  clear hl2 hk2
  go_wp2_with fail
  refine (hA.out [⟨7, 3⟩] ⟨5, 9⟩ _ hl2'.out hk2'.out.size).mono ?_
  rintro e w3 ⟨rfl, hl3, hk3⟩
  rw [aw2] at hl3
  rw [ae2]
  have hl3' := Lib.hid hl3
  have hk3' := Lib.hid (hk2'.out.trans hk3)
  clear hl3 hk3
  go_wp2_with fail
  refine (hT.out _ 6 _ hl3'.out).mono ?_
  rintro e w4 ⟨rfl, hl4, hk4⟩
  have hl4' := Lib.hid (show ListAt w4 w.heap.size (fun k => w.heap.size < k) [⟨7, 3⟩] from hl4)
  have hk4' := Lib.hid (hk3'.out.trans hk4)
  clear hl4 hk4
  rw [show takeP [⟨5, 9⟩, ⟨7, 3⟩] 6 = 9 from rfl, show takeB [⟨5, 9⟩, ⟨7, 3⟩] 6 = true from rfl]
  go_wp2_with fail
  refine (hT.out _ 6 _ hl4'.out).mono ?_
  rintro e w5 ⟨rfl, hl5, hk5⟩
  have hl5' := Lib.hid (show ListAt w5 w.heap.size (fun k => w.heap.size < k) [⟨7, 3⟩] from hl5)
  have hk5' := Lib.hid (hk4'.out.trans hk5)
  clear hl5 hk5
  rw [show takeP [⟨7, 3⟩] 6 = 0 from rfl, show takeB [⟨7, 3⟩] 6 = false from rfl]
  go_wp2_with fail
  refine (hT.out _ 7 _ hl5'.out).mono ?_
  rintro e w6 ⟨rfl, hl6, hk6⟩
  have hk6' := Lib.hid (hk5'.out.trans hk6)
  clear hl6 hk6
  rw [show takeP [⟨7, 3⟩] 7 = 3 from rfl, show takeB [⟨7, 3⟩] 7 = true from rfl]
  go_wp2
  go_ret
  exact ⟨rfl, kept_below B1.out hk6'.out (Nat.le_refl _) (fun j hj => Nat.le_of_lt hj)⟩
#print axioms awake_any
end Go.Proofs.Ytcoddeemfdnjpaa.Free
