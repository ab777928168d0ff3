/- The walks of the laws on metas: Newest, PageMetas, PageNewest. -/
import Derived.Test.YtcoddeemfdnjpaaDoorRefMetas
import Derived.Test.YtcoddeemfdnjpaaDoorPagesWalk
import Derived.Deep.RegionHeld3
namespace Go.Proofs.YtcoddeemfdnjpaaDoor.PagePlain
open Go.RowKit CrcPlain NumPlain FieldPlain
open Go.Proofs.YtcoddeemfdnjpaaDoorW.PrintMore
open Go.Proofs.YtcoddeemfdnjpaaDoorW.PrintWords hiding nums nums_length nums_append
set_option maxHeartbeats 4000000 in
set_option maxRecDepth 100000 in
theorem newest_any (a b : ByteArray) (w : World) (hT : HasTab w) (ha : a.size ≤ 2000) (hb : b.size ≤ 2000) :
    Calls Tryd.prog 43 #[.string a, .string b] w fun e w' => e = .returned (.tuple #[mtV (newM (unpackM a) (unpackM b)).1, .int .i64 (newM (unpackM a) (unpackM b)).2.1, .int .i64 (newM (unpackM a) (unpackM b)).2.2]) ∧ Below w.heap.size w w' := by
  have hT' := Lib.hid hT
  have hu46 := Tryd.underlying46
  have hua : Hid (∀ v : World, HasTab v → Calls Tryd.prog 37 #[.string a] v fun e w' => e = .returned (.tuple #[mtV (unpackM a).1, .int .i64 (unpackM a).2]) ∧ Below v.heap.size v w') := fun v hv => unpackMeta_any a v hv ha
  have hub : Hid (∀ v : World, HasTab v → Calls Tryd.prog 37 #[.string b] v fun e w' => e = .returned (.tuple #[mtV (unpackM b).1, .int .i64 (unpackM b).2]) ∧ Below v.heap.size v w') := fun v hv => unpackMeta_any b v hv hb
  obtain ⟨⟨⟨pt, pr, pf, pp, pl⟩, pe⟩, hp⟩ : ∃ z, unpackM a = z := ⟨_, rfl⟩
  obtain ⟨⟨⟨qt, qr, qf, qp, ql⟩, qe⟩, hq⟩ : ∃ z, unpackM b = z := ⟨_, rfl⟩
  rw [hp] at hua
  rw [hq] at hub
  rw [hp, hq]
  clear hp hq hT
  unfold mtV at hua hub
  simp only at hua hub
  have hB0 := Lib.hid (blk_new w (Obj.cells #[Value.int .i64 0, .int .i64 0, .int .i64 0, .int .i64 0, .int .i64 0] 46))
  have hb0 := Lib.hid ((Below.refl w.heap.size w).alloc (Nat.le_refl _) (Obj.cells #[Value.int .i64 0, .int .i64 0, .int .i64 0, .int .i64 0, .int .i64 0] 46))
  go_enter Tryd.func43, Tryd.ntmps43
  go_wp2_with fail
  refine (hua.out _ (hT'.out.below hb0.out hT'.out.pos)).mono ?_
  rintro e w2 ⟨rfl, hb2⟩
  have hb2' := Lib.hid ((hb0.out.trans (hb2.mono hb0.out.size)).alloc (Below.size (hb0.out.trans (hb2.mono hb0.out.size))) (Obj.cells #[Value.int .i64 pt, .int .i64 pr, .int .i64 pf, .int .i64 pp, .int .i64 pl] 46))
  have hB2 := Lib.hid (blk_alloc (blk_below hB0.out hb2) (Obj.cells #[Value.int .i64 pt, .int .i64 pr, .int .i64 pf, .int .i64 pp, .int .i64 pl] 46))
  have hX2 := Lib.hid (blk_new w2 (Obj.cells #[Value.int .i64 pt, .int .i64 pr, .int .i64 pf, .int .i64 pp, .int .i64 pl] 46))
  clear hb2
  go_wp2_with fail
  refine (hub.out _ (hT'.out.below hb2'.out hT'.out.pos)).mono ?_
  rintro e w3 ⟨rfl, hb3⟩
  have hb3' := Lib.hid ((hb2'.out.trans (hb3.mono hb2'.out.size)).alloc (Below.size (hb2'.out.trans (hb3.mono hb2'.out.size))) (Obj.cells #[Value.int .i64 qt, .int .i64 qr, .int .i64 qf, .int .i64 qp, .int .i64 ql] 46))
  have hB3 := Lib.hid (blk_alloc (blk_below hB2.out hb3) (Obj.cells #[Value.int .i64 qt, .int .i64 qr, .int .i64 qf, .int .i64 qp, .int .i64 ql] 46))
  have hX3 := Lib.hid (blk_alloc (blk_below hX2.out hb3) (Obj.cells #[Value.int .i64 qt, .int .i64 qr, .int .i64 qf, .int .i64 qp, .int .i64 ql] 46))
  have hY3 := Lib.hid (blk_new w3 (Obj.cells #[Value.int .i64 qt, .int .i64 qr, .int .i64 qf, .int .i64 qp, .int .i64 ql] 46))
  clear hb3 hB2 hX2 hb2' hB0 hb0 hua hub
  obtain ⟨x0, x1, x2, x3, x4⟩ := cells5 hX3.out
  obtain ⟨y0, y1, y2, y3, y4⟩ := cells5 hY3.out
  by_cases hpe : pe = 0
  · subst hpe
    by_cases hqe : qe = 0
    · subst hqe
      by_cases ht : pt < qt
      · have hN : Hid (newM (⟨pt, pr, pf, pp, pl⟩, 0) (⟨qt, qr, qf, qp, ql⟩, 0) = (⟨qt, qr, qf, qp, ql⟩, 1, 0)) := by
          show _ = _
          unfold newM
          rw [if_neg (by simp), if_pos (Or.inr ⟨rfl, ht⟩)]
        obtain ⟨⟨q0, r0⟩, ⟨q1, r1⟩, ⟨q2, r2⟩, ⟨q3, r3⟩, ⟨q4, r4⟩, hR⟩ := store5 hB3.out (.int .i64 qt) (.int .i64 qr) (.int .i64 qf) (.int .i64 qp) (.int .i64 ql)
        go_wp2
        refine bodyPost_ret (v := .tuple #[mtV ⟨qt, qr, qf, qp, ql⟩, .int .i64 1, .int .i64 0]) ?_ rfl ?_
        · exact results_ctt (p := 4) (u := 5) (v := 6) (ty := 46) rfl _ _ w.heap.size 46 #[.int .i64 qt, .int .i64 qr, .int .i64 qf, .int .i64 qp, .int .i64 ql] (0, 0) _ (by rfl) hR.out hu46 rfl (by kernel_rfl)
        · rw [hN.out]
          exact ⟨rfl, below5 hb3'.out (Nat.le_refl _) _ _ _ _ _⟩
      · have hN : Hid (newM (⟨pt, pr, pf, pp, pl⟩, 0) (⟨qt, qr, qf, qp, ql⟩, 0) = (⟨pt, pr, pf, pp, pl⟩, 0, 0)) := by
          show _ = _
          unfold newM
          rw [if_neg (by simp), if_neg (by simp; omega)]
        obtain ⟨⟨q0, r0⟩, ⟨q1, r1⟩, ⟨q2, r2⟩, ⟨q3, r3⟩, ⟨q4, r4⟩, hR⟩ := store5 hB3.out (.int .i64 pt) (.int .i64 pr) (.int .i64 pf) (.int .i64 pp) (.int .i64 pl)
        go_wp2
        refine bodyPost_ret (v := .tuple #[mtV ⟨pt, pr, pf, pp, pl⟩, .int .i64 0, .int .i64 0]) ?_ rfl ?_
        · exact results_ctt (p := 4) (u := 5) (v := 6) (ty := 46) rfl _ _ w.heap.size 46 #[.int .i64 pt, .int .i64 pr, .int .i64 pf, .int .i64 pp, .int .i64 pl] (0, 0) _ (by rfl) hR.out hu46 rfl (by kernel_rfl)
        · rw [hN.out]
          exact ⟨rfl, below5 hb3'.out (Nat.le_refl _) _ _ _ _ _⟩
    · have hN : Hid (newM (⟨pt, pr, pf, pp, pl⟩, 0) (⟨qt, qr, qf, qp, ql⟩, qe) = (⟨pt, pr, pf, pp, pl⟩, 0, 0)) := by
        show _ = _
        unfold newM
        rw [if_neg (by simp), if_neg (by simp [hqe])]
      have hq1 : (qe != 0) = true := by simpa using hqe
      have hq2 : (qe == 0) = false := by simpa using hqe
      obtain ⟨⟨q0, r0⟩, ⟨q1, r1⟩, ⟨q2, r2⟩, ⟨q3, r3⟩, ⟨q4, r4⟩, hR⟩ := store5 hB3.out (.int .i64 pt) (.int .i64 pr) (.int .i64 pf) (.int .i64 pp) (.int .i64 pl)
      go_wp2
      refine bodyPost_ret (v := .tuple #[mtV ⟨pt, pr, pf, pp, pl⟩, .int .i64 0, .int .i64 0]) ?_ rfl ?_
      · exact results_ctt (p := 4) (u := 5) (v := 6) (ty := 46) rfl _ _ w.heap.size 46 #[.int .i64 pt, .int .i64 pr, .int .i64 pf, .int .i64 pp, .int .i64 pl] (0, 0) _ (by rfl) hR.out hu46 rfl (by kernel_rfl)
      · rw [hN.out]
        exact ⟨rfl, below5 hb3'.out (Nat.le_refl _) _ _ _ _ _⟩
  · have hp1 : (pe != 0) = true := by simpa using hpe
    have hp2 : (pe == 0) = false := by simpa using hpe
    by_cases hqe : qe = 0
    · subst hqe
      have hN : Hid (newM (⟨pt, pr, pf, pp, pl⟩, pe) (⟨qt, qr, qf, qp, ql⟩, 0) = (⟨qt, qr, qf, qp, ql⟩, 1, 0)) := by
        show _ = _
        unfold newM
        rw [if_neg (by simp), if_pos (Or.inl hpe)]
      obtain ⟨⟨q0, r0⟩, ⟨q1, r1⟩, ⟨q2, r2⟩, ⟨q3, r3⟩, ⟨q4, r4⟩, hR⟩ := store5 hB3.out (.int .i64 qt) (.int .i64 qr) (.int .i64 qf) (.int .i64 qp) (.int .i64 ql)
      clear hpe
      go_wp2
      refine bodyPost_ret (v := .tuple #[mtV ⟨qt, qr, qf, qp, ql⟩, .int .i64 1, .int .i64 0]) ?_ rfl ?_
      · exact results_ctt (p := 4) (u := 5) (v := 6) (ty := 46) rfl _ _ w.heap.size 46 #[.int .i64 qt, .int .i64 qr, .int .i64 qf, .int .i64 qp, .int .i64 ql] (0, 0) _ (by rfl) hR.out hu46 rfl (by kernel_rfl)
      · rw [hN.out]
        exact ⟨rfl, below5 hb3'.out (Nat.le_refl _) _ _ _ _ _⟩
    · have hN : Hid (newM (⟨pt, pr, pf, pp, pl⟩, pe) (⟨qt, qr, qf, qp, ql⟩, qe) = (m0, 0, 4)) := by
        show _ = _
        unfold newM
        rw [if_pos ⟨hpe, hqe⟩]
      have hq1 : (qe != 0) = true := by simpa using hqe
      obtain ⟨⟨q0, r0⟩, ⟨q1, r1⟩, ⟨q2, r2⟩, ⟨q3, r3⟩, ⟨q4, r4⟩, hR⟩ := store5 hB3.out (.int .i64 0) (.int .i64 0) (.int .i64 0) (.int .i64 0) (.int .i64 0)
      clear hpe hqe
      go_wp2
      refine bodyPost_ret (v := .tuple #[mtV m0, .int .i64 0, .int .i64 4]) ?_ rfl ?_
      · exact results_ctt (p := 4) (u := 5) (v := 6) (ty := 46) rfl _ _ w.heap.size 46 #[.int .i64 0, .int .i64 0, .int .i64 0, .int .i64 0, .int .i64 0] (0, 0) _ (by rfl) hR.out hu46 rfl (by kernel_rfl)
      · rw [hN.out]
        exact ⟨rfl, below5 hb3'.out (Nat.le_refl _) _ _ _ _ _⟩
theorem newM_facts (p q : Mt × Int) : ∃ m i e, newM p q = (m, i, e) ∧ (p.2 = 0 → p.1.txn ≤ m.txn) ∧ (q.2 = 0 → q.1.txn ≤ m.txn) ∧ ((p.2 = 0 ∨ q.2 = 0) → e = 0) ∧ (p.2 ≠ 0 → q.2 ≠ 0 → e = 4) := by
  unfold newM
  by_cases c1 : p.2 ≠ 0 ∧ q.2 ≠ 0
  · rw [if_pos c1]
    exact ⟨_, _, _, rfl, fun h => absurd h c1.1, fun h => absurd h c1.2, fun h => h.elim (fun x => absurd x c1.1) (fun x => absurd x c1.2), fun _ _ => rfl⟩
  · rw [if_neg c1]
    by_cases c2 : p.2 ≠ 0 ∨ (q.2 = 0 ∧ p.1.txn < q.1.txn)
    · rw [if_pos c2]
      refine ⟨_, _, _, rfl, fun h => ?_, fun _ => Int.le_refl _, fun _ => rfl, fun h1 h2 => absurd ⟨h1, h2⟩ c1⟩
      rcases c2 with c2 | c2
      · exact absurd h c2
      · omega
    · rw [if_neg c2]
      refine ⟨_, _, _, rfl, fun _ => Int.le_refl _, fun h => ?_, fun _ => rfl, fun h1 h2 => absurd ⟨h1, h2⟩ c1⟩
      have hp : p.2 = 0 := Decidable.byContradiction fun h1 => c2 (Or.inl h1)
      exact Int.not_lt.1 fun h2 => c2 (Or.inr ⟨h, h2⟩)
set_option maxHeartbeats 4000000 in
set_option maxRecDepth 100000 in
theorem pageNewest_walk (a b : ByteArray) (w : World) (hT : HasTab w) : Calls Tryd.prog 11 #[.string a, .string b] w fun e w' => e = .returned (.bool true) ∧ Below w.heap.size w w' := by
  have hT' := Lib.hid hT
  have hu46 := Tryd.underlying46
  clear hT
  by_cases ha : a.size ≤ 2000
  · by_cases hb : b.size ≤ 2000
    · have hne : Hid (∀ v : World, HasTab v → Calls Tryd.prog 43 #[.string a, .string b] v fun e w' => e = .returned (.tuple #[mtV (newM (unpackM a) (unpackM b)).1, .int .i64 (newM (unpackM a) (unpackM b)).2.1, .int .i64 (newM (unpackM a) (unpackM b)).2.2]) ∧ Below v.heap.size v w') := fun v hv => newest_any a b v hv ha hb
      have hrn : Hid (∀ v : World, Calls Tryd.prog 44 #[.string a, .string b] v fun e w' => e = .returned (.tuple #[mtV (newM (unpackM a) (unpackM b)).1, .int .i64 (newM (unpackM a) (unpackM b)).2.1, .int .i64 (newM (unpackM a) (unpackM b)).2.2]) ∧ Below v.heap.size v w') := fun v => refNewest_any a b v ha hb
      have hua : Hid (∀ v : World, HasTab v → Calls Tryd.prog 37 #[.string a] v fun e w' => e = .returned (.tuple #[mtV (unpackM a).1, .int .i64 (unpackM a).2]) ∧ Below v.heap.size v w') := fun v hv => unpackMeta_any a v hv ha
      have hub : Hid (∀ v : World, HasTab v → Calls Tryd.prog 37 #[.string b] v fun e w' => e = .returned (.tuple #[mtV (unpackM b).1, .int .i64 (unpackM b).2]) ∧ Below v.heap.size v w') := fun v hv => unpackMeta_any b v hv hb
      obtain ⟨m, i, e, hN, hf1, hf2, hf3, hf4⟩ := newM_facts (unpackM a) (unpackM b)
      rw [hN] at hne hrn
      obtain ⟨⟨⟨pt, pr, pf, pp, pl⟩, pe⟩, hp⟩ : ∃ z, unpackM a = z := ⟨_, rfl⟩
      obtain ⟨⟨⟨qt, qr, qf, qp, ql⟩, qe⟩, hq⟩ : ∃ z, unpackM b = z := ⟨_, rfl⟩
      obtain ⟨mt, mr, mf, mp, ml⟩ := m
      rw [hp] at hua hf1 hf3 hf4
      rw [hq] at hub hf2 hf3 hf4
      unfold mtV at hua hub hne hrn
      simp only at hua hub hne hrn hf1 hf2 hf3 hf4
      have hf1' := Lib.hid hf1
      have hf2' := Lib.hid hf2
      have hf3' := Lib.hid hf3
      have hf4' := Lib.hid hf4
      clear hp hq hN hf1 hf2 hf3 hf4
      go_enter Tryd.func11, Tryd.ntmps11
      go_wp2_with fail
      refine (awake04 _ hT'.out).mono ?_
      rintro e w2 ⟨rfl, hb2⟩
      have hb2' := Lib.hid hb2
      clear hb2
      go_wp2_with fail
      refine (hne.out _ (hT'.out.below hb2'.out hT'.out.pos)).mono ?_
      rintro e w3 ⟨rfl, hb3⟩
      have hb3' := Lib.hid ((hb2'.out.trans (hb3.mono hb2'.out.size)).alloc (Below.size (hb2'.out.trans (hb3.mono hb2'.out.size))) (Obj.cells #[Value.int .i64 mt, .int .i64 mr, .int .i64 mf, .int .i64 mp, .int .i64 ml] 46))
      have hM3 := Lib.hid (blk_new w3 (Obj.cells #[Value.int .i64 mt, .int .i64 mr, .int .i64 mf, .int .i64 mp, .int .i64 ml] 46))
      clear hb3 hb2'
      go_wp2_with fail
      refine (hrn.out _).mono ?_
      rintro e w4 ⟨rfl, hb4⟩
      have hb4' := Lib.hid ((hb3'.out.trans (hb4.mono hb3'.out.size)).alloc (Below.size (hb3'.out.trans (hb4.mono hb3'.out.size))) (Obj.cells #[Value.int .i64 mt, .int .i64 mr, .int .i64 mf, .int .i64 mp, .int .i64 ml] 46))
      have hM4 := Lib.hid (blk_alloc (blk_below hM3.out hb4) (Obj.cells #[Value.int .i64 mt, .int .i64 mr, .int .i64 mf, .int .i64 mp, .int .i64 ml] 46))
      have hN4 := Lib.hid (blk_new w4 (Obj.cells #[Value.int .i64 mt, .int .i64 mr, .int .i64 mf, .int .i64 mp, .int .i64 ml] 46))
      clear hb4 hb3' hM3
      obtain ⟨x0, x1, x2, x3, x4⟩ := cells5 hM4.out
      obtain ⟨y0, y1, y2, y3, y4⟩ := cells5 hN4.out
      go_wp2_with fail
      refine (hua.out _ (hT'.out.below hb4'.out hT'.out.pos)).mono ?_
      clear x0 x1 x2 x3 x4 y0 y1 y2 y3 y4
      rintro e w5 ⟨rfl, hb5⟩
      have hb5' := Lib.hid ((hb4'.out.trans (hb5.mono hb4'.out.size)).alloc (Below.size (hb4'.out.trans (hb5.mono hb4'.out.size))) (Obj.cells #[Value.int .i64 pt, .int .i64 pr, .int .i64 pf, .int .i64 pp, .int .i64 pl] 46))
      have hM5 := Lib.hid (blk_alloc (blk_below hM4.out hb5) (Obj.cells #[Value.int .i64 pt, .int .i64 pr, .int .i64 pf, .int .i64 pp, .int .i64 pl] 46))
      have hP5 := Lib.hid (blk_new w5 (Obj.cells #[Value.int .i64 pt, .int .i64 pr, .int .i64 pf, .int .i64 pp, .int .i64 pl] 46))
      clear hb5 hb4' hM4 hN4
      go_wp2_with fail
      refine (hub.out _ (hT'.out.below hb5'.out hT'.out.pos)).mono ?_
      rintro e w6 ⟨rfl, hb6⟩
      have hb6' := Lib.hid ((hb5'.out.trans (hb6.mono hb5'.out.size)).alloc (Below.size (hb5'.out.trans (hb6.mono hb5'.out.size))) (Obj.cells #[Value.int .i64 qt, .int .i64 qr, .int .i64 qf, .int .i64 qp, .int .i64 ql] 46))
      have hM6 := Lib.hid (blk_alloc (blk_below hM5.out hb6) (Obj.cells #[Value.int .i64 qt, .int .i64 qr, .int .i64 qf, .int .i64 qp, .int .i64 ql] 46))
      have hP6 := Lib.hid (blk_alloc (blk_below hP5.out hb6) (Obj.cells #[Value.int .i64 qt, .int .i64 qr, .int .i64 qf, .int .i64 qp, .int .i64 ql] 46))
      have hQ6 := Lib.hid (blk_new w6 (Obj.cells #[Value.int .i64 qt, .int .i64 qr, .int .i64 qf, .int .i64 qp, .int .i64 ql] 46))
      clear hb6 hb5' hM5 hP5 hua hub hne hrn
      have x0 := blk_cell hM6.out 0
      have y0 := blk_cell hP6.out 0
      have z0 := blk_cell hQ6.out 0
      by_cases hpe : pe = 0
      · have he := hf3'.out (Or.inl hpe)
        have ht := hf1'.out hpe
        subst he hpe
        by_cases hqe : qe = 0
        · have ht2 := hf2'.out hqe
          subst hqe
          go_wp2
          go_ret
          exact ⟨rfl, hb6'.out⟩
        · have hq1 : (qe != 0) = true := by simpa using hqe
          have hq2 : (qe == 0) = false := by simpa using hqe
          clear hqe
          go_wp2
          go_ret
          exact ⟨rfl, hb6'.out⟩
      · have hp1 : (pe != 0) = true := by simpa using hpe
        have hp2 : (pe == 0) = false := by simpa using hpe
        by_cases hqe : qe = 0
        · have he := hf3'.out (Or.inr hqe)
          have ht2 := hf2'.out hqe
          subst he hqe
          clear hpe
          go_wp2
          go_ret
          exact ⟨rfl, hb6'.out⟩
        · have he := hf4'.out hpe hqe
          have hq1 : (qe != 0) = true := by simpa using hqe
          have hq2 : (qe == 0) = false := by simpa using hqe
          subst he
          clear hpe hqe
          go_wp2
          go_ret
          exact ⟨rfl, hb6'.out⟩
    · have hs2 : (2000 : Int) < (b.size : Int) := by omega
      go_enter Tryd.func11, Tryd.ntmps11
      go_wp2_with fail
      refine (awake04 _ hT'.out).mono ?_
      rintro e w2 ⟨rfl, hb2⟩
      go_wp2
      go_ret
      exact ⟨rfl, hb2⟩
  · have hs2 : (2000 : Int) < (a.size : Int) := by omega
    go_enter Tryd.func11, Tryd.ntmps11
    go_wp2_with fail
    refine (awake04 _ hT'.out).mono ?_
    rintro e w2 ⟨rfl, hb2⟩
    go_wp2
    go_ret
    exact ⟨rfl, hb2⟩
end Go.Proofs.YtcoddeemfdnjpaaDoor.PagePlain
