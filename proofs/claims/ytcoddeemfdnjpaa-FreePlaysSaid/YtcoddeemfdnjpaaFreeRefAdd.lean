/- The reference's Add. -/
import Derived.Test.YtcoddeemfdnjpaaFreeAppend
import Derived.Test.YtcoddeemfdnjpaaFreePlayPlain
namespace Go.Proofs.Ytcoddeemfdnjpaa.Free
open Go.RowKit Go.Lib Go.Proofs.Ytcoddeemfdnjpaa.Fn
theorem refRight_any (f : S28) (w : World) : Calls Try.prog 32 #[.agg #[.int .i64 f.f0, .int .i64 f.f1]] w fun e w' => e = .returned (.bool (decide (right f))) ∧ Below w.heap.size w w' :=
  rollbookref08_Right.calls f.f0 f.f1 _ w (by
    unfold rollbookref08_Right.f
    by_cases h1 : 0 ≤ f.f0
    · by_cases h2 : f.f0 ≤ 1099511627776
      · by_cases h3 : 1 ≤ f.f1
        · have h4 : (f.f1 ≤ 511) ↔ (f.f1 < 512) := by omega
          simp [h1, h2, h3, h4, right]
        · simp [h1, h2, h3, right]
      · simp [h1, h2, right]
    · simp [h1, right])
set_option maxHeartbeats 800000 in
set_option maxRecDepth 100000 in
theorem refAdd_bad (w : World) (b : Nat) (f : S28) (h : ¬ right f) :
    Calls Try.prog 15 #[.pointer (some ⟨b, 0, none⟩), .agg #[.int .i64 f.f0, .int .i64 f.f1]] w fun e w' => e = .returned (.int .i64 1) ∧ Below w.heap.size w w' := by
  have hr := Lib.hid (fun w => refRight_any f w)
  have hd : decide (right f) = false := decide_eq_false h
  rw [hd] at hr
  have B1 := Lib.hid ((Below.refl w.heap.size w).alloc (Nat.le_refl _) (Obj.cells #[.int .i64 f.f0, .int .i64 f.f1] 28))
  clear h hd
  go_enter Try.func15, Try.ntmps15
  go_wp2_with fail
  refine (hr.out _).mono ?_
  rintro e w2 ⟨rfl, hb2⟩
  have B2 := Lib.hid (B1.out.trans (hb2.mono B1.out.size))
  clear hb2
  go_wp2
  go_ret
  exact ⟨rfl, B2.out⟩
set_option maxHeartbeats 800000 in
set_option maxRecDepth 100000 in
theorem refAdd_there (w : World) (ok : Nat → Prop) (b : Nat) (l : List S28) (f : S28) (h : right f) (H : RefAt w b ok l) (hl : l.length ≤ 1000) (hin : hasB l f.f1 = true) :
    Calls Try.prog 15 #[.pointer (some ⟨b, 0, none⟩), .agg #[.int .i64 f.f0, .int .i64 f.f1]] w fun e w' => e = .returned (.int .i64 8) ∧ Below w.heap.size w w' := by
  have hr := Lib.hid (fun w => refRight_any f w)
  have hd : decide (right f) = true := decide_eq_true h
  rw [hd] at hr
  obtain ⟨w1, hw1⟩ : ∃ w1, w1 = w.alloc (.cells #[.int .i64 f.f0, .int .i64 f.f1] 28) := ⟨_, rfl⟩
  have B1 := Lib.hid (show Below w.heap.size w w1 by rw [hw1]; exact (Below.refl w.heap.size w).alloc (Nat.le_refl _) _)
  have z1 := Lib.hid (show w1.heap.size = w.heap.size + 1 by rw [hw1]; simp)
  have t1 := Lib.hid (show w1.cell? ⟨w.heap.size, 1, none⟩ = some (.int .i64 f.f1) by rw [hw1, World.cell?_alloc_at _ _ _ _ rfl]; rfl)
  have hh := Lib.hid (fun (u : World) (hu : Below w.heap.size w u) => (by
    have h := refHas_any u ok b l f.f1 (H.below hu) hl
    rw [hin] at h
    exact h : Calls Try.prog 19 #[.pointer (some ⟨b, 0, none⟩), .int .i64 f.f1] u fun e w' => e = .returned (.bool true) ∧ w' = u))
  have hw1' := Lib.hid hw1
  clear h hd hin H
  go_enter Try.func15, Try.ntmps15
  go_wp2_with fail
  rw [← hw1'.out]
  clear hw1' hw1
  refine (hr.out _).mono ?_
  rintro e w2 ⟨rfl, hb2⟩
  have B2 := Lib.hid (B1.out.trans (hb2.mono B1.out.size))
  have c1 : w2.cell? ⟨w.heap.size, 1, none⟩ = some (.int .i64 f.f1) := by rw [hb2.cell (by rw [z1.out]; exact Nat.lt_succ_self _)]; exact t1.out
  clear hb2
  go_wp2_with fail
  refine (hh.out _ B2.out).mono ?_
  rintro e w3 ⟨rfl, rfl⟩
  go_wp2
  go_ret
  exact ⟨rfl, B2.out⟩
set_option maxHeartbeats 1600000 in
set_option maxRecDepth 100000 in
theorem refAdd_ok (w : World) (ok : Nat → Prop) (b : Nat) (l : List S28) (f : S28) (h : right f) (H : RefAt w b ok l) (hok : ∀ k, w.heap.size ≤ k → ok k) (hl : l.length ≤ 1000) (hin : hasB l f.f1 = false) :
    Calls Try.prog 15 #[.pointer (some ⟨b, 0, none⟩), .agg #[.int .i64 f.f0, .int .i64 f.f1]] w fun e w' => e = .returned (.int .i64 0) ∧ RefAt w' b ok (l ++ [f]) ∧ Kept ok b w w' := by
  have hr := Lib.hid (fun w => refRight_any f w)
  have hd : decide (right f) = true := decide_eq_true h
  rw [hd] at hr
  obtain ⟨w1, hw1⟩ : ∃ w1, w1 = w.alloc (.cells #[.int .i64 f.f0, .int .i64 f.f1] 28) := ⟨_, rfl⟩
  have B1 := Lib.hid (show Below w.heap.size w w1 by rw [hw1]; exact (Below.refl w.heap.size w).alloc (Nat.le_refl _) _)
  have z1 := Lib.hid (show w1.heap.size = w.heap.size + 1 by rw [hw1]; simp)
  have t0 := Lib.hid (show w1.cell? ⟨w.heap.size, 0, none⟩ = some (.int .i64 f.f0) by rw [hw1, World.cell?_alloc_at _ _ _ _ rfl]; rfl)
  have t1 := Lib.hid (show w1.cell? ⟨w.heap.size, 1, none⟩ = some (.int .i64 f.f1) by rw [hw1, World.cell?_alloc_at _ _ _ _ rfl]; rfl)
  have hh := Lib.hid (fun (u : World) (hu : Below w.heap.size w u) => (by
    have h := refHas_any u ok b l f.f1 (H.below hu) hl
    rw [hin] at h
    exact h : Calls Try.prog 19 #[.pointer (some ⟨b, 0, none⟩), .int .i64 f.f1] u fun e w' => e = .returned (.bool false) ∧ w' = u))
  have hw1' := Lib.hid hw1
  have hb := H.lt
  have hok' := Lib.hid hok
  have hl' := Lib.hid hl
  have H' := Lib.hid H
  obtain ⟨v, hv, L⟩ := H.row
  obtain ⟨A0, n0, c0, hv0⟩ := L.slice
  rw [hv0] at hv L
  clear hv0
  have hv' := Lib.hid hv
  have L' := Lib.hid L
  clear h hd hin H hok hv L hl
  go_enter Try.func15, Try.ntmps15
  go_wp2_with fail
  rw [← hw1'.out]
  clear hw1' hw1
  refine (hr.out _).mono ?_
  rintro e w2 ⟨rfl, hb2⟩
  have B2 := Lib.hid (B1.out.trans (hb2.mono B1.out.size))
  have q0 : w2.cell? ⟨w.heap.size, 0, none⟩ = some (.int .i64 f.f0) := by rw [hb2.cell (by rw [z1.out]; exact Nat.lt_succ_self _)]; exact t0.out
  have q1 : w2.cell? ⟨w.heap.size, 1, none⟩ = some (.int .i64 f.f1) := by rw [hb2.cell (by rw [z1.out]; exact Nat.lt_succ_self _)]; exact t1.out
  have z2 := Lib.hid (Nat.le_trans (by rw [z1.out]; exact Nat.le_succ _) hb2.size : w.heap.size ≤ w2.heap.size)
  clear hb2
  go_wp2_with fail
  refine (hh.out _ B2.out).mono ?_
  rintro e w3 ⟨rfl, rfl⟩
  have q2 : w3.cell? ⟨b, 0, none⟩ = some (.slice A0 n0 c0) := by rw [B2.out.cell hb]; exact hv'.out
  have hb3 : b < w3.heap.size := Nat.lt_of_lt_of_le hb z2.out
  have hB3 : (w3.drew.alloc (.cells #[.int .i64 f.f0, .int .i64 f.f1] 28)).heap[b]? = w3.heap[b]? := Below.heap_alloc _ _ _ hb3
  have L3 : Lst (w3.drew.alloc (.cells #[.int .i64 f.f0, .int .i64 f.f1] 28)) ok (.slice A0 n0 c0) l := L'.out.keep (fun k hk hlt => ⟨(Below.heap_alloc _ _ _ (Nat.lt_of_lt_of_le hlt z2.out)).trans (B2.out.block k hlt), hk⟩)
  obtain ⟨A5, n5, c5, w5, hrun, hL5, hg5⟩ := append_one (w3.drew.alloc (.cells #[.int .i64 f.f0, .int .i64 f.f1] 28)) ok (.slice A0 n0 c0) l w3.heap.size f L3 (by have := hl'.out; omega)
    ((World.cell?_alloc_at (w := w3.drew) _ _ w3.heap.size 0 rfl).trans rfl) ((World.cell?_alloc_at (w := w3.drew) _ _ w3.heap.size 1 rfl).trans rfl)
  have hown : ∀ k, (Value.slice A0 n0 c0).ownBlock = some k → ok k ∧ k < w.heap.size := by
    intro k hk
    rcases L'.out with ⟨e, _⟩ | ⟨g, off, c, e, hg, R⟩
    · rw [e] at hk; cases hk
    · rw [e] at hk
      have : g = k := by simpa [Value.ownBlock] using hk
      subst this
      exact ⟨hg, R.lt⟩
  have hnb : some b ≠ (Value.slice A0 n0 c0).ownBlock := fun e => H'.out.notok (hown b e.symm).1
  have h5b : w5.heap[b]? = w3.heap[b]? := (hg5.block b (by simp; omega) hnb).trans hB3
  have q3 : w5.cell? ⟨b, 0, none⟩ = some (.slice A0 n0 c0) := (World.cell?_of_block (a := ⟨b, 0, none⟩) h5b).trans q2
  have q4 : w5.frozen? ⟨b, 0, none⟩ = false := (World.frozen?_of_block (a := ⟨b, 0, none⟩) h5b).trans (by rw [B2.out.frozen hb]; exact H'.out.froz)
  have hfin := Lib.hid (show RefAt (w5.setCell ⟨b, 0, none⟩ (.slice A5 n5 c5)) b ok (l ++ [f]) ∧ Kept ok b w (w5.setCell ⟨b, 0, none⟩ (.slice A5 n5 c5)) from by
    refine ⟨⟨⟨_, World.cell?_setCell_same w5 _ _ q3, hL5.keep (fun k hk hlt => ?_)⟩, by rw [World.frozen?_setCell]; exact q4, H'.out.notok⟩, ?_⟩
    · have hk' : ok k := hk.elim (fun h => (hown k h.symm).1) (fun h => hok'.out k (Nat.le_trans z2.out (Nat.le_trans (by simp) h)))
      exact ⟨Below.heap_setCell w5 _ _ _ (fun e => H'.out.notok (by have e' : k = b := e; rw [← e']; exact hk')), hk'⟩
    · refine (Kept.of_below B2.out).trans ((Kept.of_below (w' := w3.drew.alloc (.cells #[.int .i64 f.f0, .int .i64 f.f1] 28)) ((Below.refl _ w3).drew.alloc (Nat.le_refl _) _)).trans ?_)
      refine (Kept.of_grown hg5 (fun k hk _ => .inl (hown k hk).1)).trans ⟨rfl, rfl, rfl, by simp [World.setCell], fun k _ h1 _ => Below.heap_setCell w5 _ _ _ h1⟩)
  have hrun' := Lib.hid hrun
  clear hrun hL5 hg5 h5b hnb hown L3 hB3
  go_wp2_with fail
  go_region_law (refine step_append_runI rfl (.tmp 16) (.tmp 18) 39 39 rfl _ _ (by simp [Act.eval]) (by simp [Act.eval]) (hrun'.out _) ?_)
  all_goals
    go_wp2
    go_ret
    exact ⟨rfl, hfin.out⟩
theorem refAdd_any (w : World) (ok : Nat → Prop) (b : Nat) (l : List S28) (f : S28) (H : RefAt w b ok l) (hok : ∀ k, w.heap.size ≤ k → ok k) (hl : l.length ≤ 1000) :
    Calls Try.prog 15 #[.pointer (some ⟨b, 0, none⟩), .agg #[.int .i64 f.f0, .int .i64 f.f1]] w fun e w' => e = .returned (.int .i64 (refAddE l f)) ∧ RefAt w' b ok (refAddL l f) ∧ Kept ok b w w' := by
  by_cases hr : right f
  · by_cases hin : hasB l f.f1 = true
    · refine (refAdd_there w ok b l f hr H hl hin).mono ?_
      rintro e w' ⟨rfl, hb⟩
      exact ⟨by rw [refAddE, if_pos hr, if_pos hin], by rw [refAddL, if_neg (by rw [hin]; simp)]; exact H.below hb, .of_below hb⟩
    · have hin' : hasB l f.f1 = false := by simpa using hin
      refine (refAdd_ok w ok b l f hr H hok hl hin').mono ?_
      rintro e w' ⟨rfl, h1, h2⟩
      exact ⟨by rw [refAddE, if_pos hr, if_neg hin], by rw [refAddL, if_pos ⟨hr, hin'⟩]; exact h1, h2⟩
  · refine (refAdd_bad w b f hr).mono ?_
    rintro e w' ⟨rfl, hb⟩
    exact ⟨by rw [refAddE, if_neg hr], by rw [refAddL, if_neg (fun h => hr h.1)]; exact H.below hb, .of_below hb⟩
#print axioms refAdd_any
end Go.Proofs.Ytcoddeemfdnjpaa.Free
