/- List.Add: whatever the list and the page. -/
import Derived.Test.YtcoddeemfdnjpaaFreeAdd
import Derived.Deep.AppendLies
namespace Go.Proofs.Ytcoddeemfdnjpaa.Free
open Go.RowKit Go.Lib Go.Proofs.Ytcoddeemfdnjpaa.Fn
theorem Lst.slice {w : World} {ok : Nat → Prop} {v : Value} {l : List S28} (h : Lst w ok v l) : ∃ A n c, v = .slice A n c := by
  rcases h with ⟨rfl, _⟩ | ⟨g, off, c, rfl, hg, R⟩
  · exact ⟨_, _, _, rfl⟩
  · exact ⟨_, _, _, rfl⟩
theorem Lst.own {w : World} {ok : Nat → Prop} {v : Value} {l : List S28} (h : Lst w ok v l) : Lst w (fun k => some k = v.ownBlock) v l := by
  rcases h with h | ⟨g, off, c, rfl, hg, R⟩
  · exact .inl h
  · exact .inr ⟨g, off, c, rfl, rfl, R⟩
set_option maxHeartbeats 1600000 in
set_option maxRecDepth 100000 in
theorem add_ok (w : World) (ok : Nat → Prop) (b p : Nat) (v : Value) (l : List S28) (f : S28) (h : right f) (hp : f.f1 = (p : Int)) (L : Lst w ok v l) (hok : ¬ ok b) (hn : l.length < 100000) (hm : Mono l f)
    (hv : w.cell? ⟨b, 0, none⟩ = some v) (hc : w.cell? ⟨b, 1 + p, none⟩ = some (.bool false)) (hf : ∀ j, w.frozen? ⟨b, j, none⟩ = false) (hb : b < w.heap.size) :
    Calls Try.prog 11 #[.pointer (some ⟨b, 0, none⟩), .agg #[.int .i64 f.f0, .int .i64 f.f1]] w fun e w' => e = .returned (.int .i64 0) ∧
      ∃ v' w5, w.grownBy w5 v.ownBlock ∧ Lst w5 (fun k => some k = v.ownBlock ∨ w.heap.size ≤ k) v' (ins l (pos l f) f) ∧ w' = (w5.setCell ⟨b, 0, none⟩ v').drew.setCell ⟨b, 1 + p, none⟩ (.bool true) := by
  have hr := Lib.hid (fun w => right_any f w)
  have hd : decide (right f) = true := decide_eq_true h
  rw [hd] at hr
  have hp5 : p < 512 := by unfold right at h; omega
  have hp6 : (p : Int) < 512 := by omega
  obtain ⟨w1, hw1⟩ : ∃ w1, w1 = w.alloc (.cells #[.int .i64 f.f0, .int .i64 f.f1] 28) := ⟨_, rfl⟩
  have B1 := Lib.hid (show Below w.heap.size w w1 by rw [hw1]; exact (Below.refl w.heap.size w).alloc (Nat.le_refl _) _)
  have z1 := Lib.hid (show w1.heap.size = w.heap.size + 1 by rw [hw1]; simp)
  have t0 := Lib.hid (show w1.cell? ⟨w.heap.size, 0, none⟩ = some (.int .i64 f.f0) by rw [hw1, World.cell?_alloc_at _ _ _ _ rfl]; rfl)
  have t1 := Lib.hid (show w1.cell? ⟨w.heap.size, 1, none⟩ = some (.int .i64 (p : Int)) by rw [hw1, World.cell?_alloc_at _ _ _ _ rfl, ← hp]; rfl)
  have hw1' := Lib.hid hw1
  have hp' := Lib.hid hp
  have hc' := Lib.hid hc
  have hv' := Lib.hid hv
  have hf' := Lib.hid hf
  have L' := Lib.hid L
  have hok' := Lib.hid hok
  -- the facts in a world in which all below w1's size is as it was
  have HC := Lib.hid (fun (u : World) (hu : Below w1.heap.size w1 u) => (⟨by rw [hu.cell (by rw [z1.out]; exact Nat.lt_succ_self _)]; exact t0.out, by rw [hu.cell (by rw [z1.out]; exact Nat.lt_succ_self _)]; exact t1.out,
    by rw [hu.cell (by rw [z1.out]; exact Nat.lt_succ_of_lt hb), B1.out.cell hb]; exact hv, by rw [hu.cell (by rw [z1.out]; exact Nat.lt_succ_of_lt hb), B1.out.cell hb]; exact hc, hu⟩ :
      u.cell? ⟨w.heap.size, 0, none⟩ = some (.int .i64 f.f0) ∧ u.cell? ⟨w.heap.size, 1, none⟩ = some (.int .i64 (p : Int)) ∧ u.cell? ⟨b, 0, none⟩ = some v ∧ u.cell? ⟨b, 1 + p, none⟩ = some (.bool false) ∧ Hid (Below w1.heap.size w1 u)))
  have HS := Lib.hid (fun (u : World) (hu : Below w1.heap.size w1 u) => (search_any u ok v l f (L.keep (fun k hk hlt => ⟨(hu.block k (by rw [z1.out]; exact Nat.lt_succ_of_lt hlt)).trans (B1.out.block k hlt), hk⟩)) hn hm).mono (fun e w' h => (⟨h.1, hu.trans (h.2.mono hu.size)⟩ : (∃ t : Bool, e = .returned (.tuple #[.int .i64 (pos l f : Nat), .bool t])) ∧ Below w1.heap.size w1 w')))
  rw [hp] at HS
  clear h hd hc hp hv hf L hok hm
  go_enter Try.func11, Try.ntmps11
  go_wp2_with fail
  rw [← hw1'.out]
  clear hw1'
  refine (hr.out _).mono ?_
  rintro e w2 ⟨rfl, hb2⟩
  have hb2' := Lib.hid hb2
  obtain ⟨c0, c1, c2, c3, -⟩ := HC.out _ hb2
  clear hb2
  go_wp2_with fail
  go_quiet (fail)
  have hb3 := Lib.hid (below_drewN nq hb2'.out)
  have hb3d := Lib.hid hb3.out.drew
  clear c0 c1 c2 c3
  obtain ⟨w3, hw3⟩ : ∃ w3, w3 = w2.drewN nq := ⟨_, rfl⟩
  rw [← hw3] at hb3 hb3d ⊢
  clear hw3
  go_wp2_with fail
  go_region_held3 (fun u => u.cell? ⟨w.heap.size, 0, none⟩ = some (.int .i64 f.f0) ∧ u.cell? ⟨w.heap.size, 1, none⟩ = some (.int .i64 (p : Int)) ∧ u.cell? ⟨b, 0, none⟩ = some v ∧ u.cell? ⟨b, 1 + p, none⟩ = some (.bool false) ∧ Hid (Below w1.heap.size w1 u))
    (first | exact HC.out _ hb3d.out | exact HC.out _ (by assumption))
    (first | (go_at_call 29; refine (HS.out _ ?_).mono ?_; (first | exact hb3d.out | exact (‹_ ∧ _ ∧ _ ∧ _ ∧ Hid (Below _ _ _)› : _ ∧ _ ∧ _ ∧ _ ∧ Hid (Below _ _ _)).2.2.2.2.out); rintro e w4 ⟨⟨t, rfl⟩, hHx⟩))
  all_goals
    rename_i hHeld
    clear hHeld
    have hb4 := Lib.hid hHx
    obtain ⟨c0, c1, c2, c3, -⟩ := HC.out _ hHx
    clear hHx
    have hpi : pos l f ≤ l.length := List.countP_le_length
    obtain ⟨i, hi⟩ : ∃ i, i = pos l f := ⟨_, rfl⟩
    rw [← hi] at hpi ⊢
    have hi' := Lib.hid hi
    clear hi
    have hbw : b < w4.heap.size := Nat.lt_of_lt_of_le hb (Nat.le_trans B1.out.size hb4.out.size)
    have hBw : w.heap.size < w4.heap.size := Nat.lt_of_lt_of_le (by rw [z1.out]; exact Nat.lt_succ_self _) hb4.out.size
    -- w's own block: not b, not the box
    have hown : ∀ k, v.ownBlock = some k → ok k ∧ k < w.heap.size := by
      intro k hk
      rcases L'.out with ⟨rfl, _⟩ | ⟨g, off, c, rfl, hg, R⟩
      · cases hk
      · have : g = k := by simpa [Value.ownBlock] using hk
        subst this
        exact ⟨hg, R.lt⟩
    have hnb : some b ≠ v.ownBlock := fun e => hok'.out (hown b e.symm).1
    have hnB : some w.heap.size ≠ v.ownBlock := fun e => Nat.lt_irrefl _ (hown _ e.symm).2
    have hgc := Lib.hid (fun (u : World) (hu : w4.grownBy u v.ownBlock) => (⟨by rw [World.cell?_of_block (a := ⟨w.heap.size, 1, none⟩) (hu.block _ hBw hnB)]; exact c1,
      by rw [World.cell?_of_block (a := ⟨b, 0, none⟩) (hu.block _ hbw hnb)]; exact c2, by rw [World.frozen?_of_block (a := ⟨b, 0, none⟩) (hu.block _ hbw hnb), hb4.out.frozen (by rw [z1.out]; exact Nat.lt_succ_of_lt hb), B1.out.frozen hb]; exact hf'.out 0,
      by rw [World.cell?_of_block (a := ⟨b, 1 + p, none⟩) (hu.block _ hbw hnb)]; exact c3, by rw [World.frozen?_of_block (a := ⟨b, 1 + p, none⟩) (hu.block _ hbw hnb), hb4.out.frozen (by rw [z1.out]; exact Nat.lt_succ_of_lt hb), B1.out.frozen hb]; exact hf'.out _, hu⟩ :
        u.cell? ⟨w.heap.size, 1, none⟩ = some (.int .i64 (p : Int)) ∧ u.cell? ⟨b, 0, none⟩ = some v ∧ u.frozen? ⟨b, 0, none⟩ = false ∧ u.cell? ⟨b, 1 + p, none⟩ = some (.bool false) ∧ u.frozen? ⟨b, 1 + p, none⟩ = false ∧ Hid (w4.grownBy u v.ownBlock)))
    have hg0 := Lib.hid (show w4.grownBy w4.drew v.ownBlock from ⟨rfl, rfl, rfl, Nat.le_refl _, fun _ _ _ => rfl⟩)
    have hg1 := Lib.hid (show w4.grownBy (w4.drew.alloc (.cells #[.int .i64 f.f0, .int .i64 (p : Int)] 28)) v.ownBlock from ⟨rfl, rfl, rfl, by simp, fun k hk _ => Below.heap_alloc _ _ _ hk⟩)
    have hfe : #[Value.int .i64 f.f0, .int .i64 f.f1] = #[.int .i64 f.f0, .int .i64 (p : Int)] := by rw [hp'.out]
    have hins := Lib.hid (insert_any (w4.drew.alloc (.cells #[.int .i64 f.f0, .int .i64 (p : Int)] 28)) (fun k => some k = v.ownBlock) v l i w4.heap.size 0 1 f
      (L'.out.own.keep (fun k hk hlt => ⟨(Below.heap_alloc _ _ _ (Nat.lt_trans hlt hBw)).trans ((hb4.out.block k (by rw [z1.out]; exact Nat.lt_succ_of_lt hlt)).trans (B1.out.block k hlt)), hk⟩)) hpi hn (fun e => by have := (hown _ e.symm).2; omega)
      ((World.cell?_alloc_at (w := w4.drew) _ _ w4.heap.size 0 rfl).trans rfl) (by rw [hp'.out]; exact (World.cell?_alloc_at (w := w4.drew) _ _ w4.heap.size 1 rfl).trans rfl) ⟨2, shape_new w4.drew _ _⟩ (fun j => World.frozen?_alloc_at (w := w4.drew) _ _ w4.heap.size _ rfl))
    have h5 := Lib.hid (fun (u : World) (hu : (w4.drew.alloc (.cells #[.int .i64 f.f0, .int .i64 (p : Int)] 28)).grownBy u v.ownBlock) => hgc.out u (grown_trans hg1.out hu))
    clear hfe c3
    go_wp2_with fail
    go_region_law (first | (go_simp; go_at_call 31; refine hins.out.mono ?_; rintro e w5 ⟨v5, rfl, hL5, hg5⟩; obtain ⟨A5, n5, k5, rfl⟩ := hL5.slice; have hL5' := Lib.hid hL5; obtain ⟨y1, y2, y3, y4, y5, hg5'⟩ := h5.out _ hg5; clear hL5 hg5))
    all_goals
      clear c0 c1 c2
      go_wp2_with fail
      go_region
      go_wp2
      go_ret
      refine ⟨rfl, _, w5, ?_, ?_, rfl⟩
      · exact grown_trans (grown_below (B1.out.trans (hb4.out.mono (by rw [z1.out]; omega)))) hg5'.out
      · rw [← hi'.out]
        exact hL5'.out.keep (fun k hk _ => ⟨rfl, hk.imp id (fun h => Nat.le_trans (Nat.le_of_lt hBw) (Nat.le_trans hg1.out.size h))⟩)
theorem pos_spec {l : List S28} {f : S28} (h : l.Pairwise ltF) : (∀ x ∈ l.take (pos l f), ltF x f) ∧ (∀ x ∈ l.drop (pos l f), ¬ ltF x f) := by
  induction l with
  | nil => exact ⟨fun x hx => by simp at hx, fun x hx => by simp at hx⟩
  | cons a r ih =>
    obtain ⟨h1, h2⟩ := List.pairwise_cons.1 h
    obtain ⟨i1, i2⟩ := ih h2
    by_cases ha : ltF a f
    · have e : pos (a :: r) f = pos r f + 1 := by unfold pos; rw [List.countP_cons_of_pos (by simpa using ha)]
      rw [e]
      refine ⟨fun x hx => ?_, fun x hx => ?_⟩
      · rw [List.take_succ_cons] at hx
        rcases List.mem_cons.1 hx with rfl | hx
        · exact ha
        · exact i1 x hx
      · rw [List.drop_succ_cons] at hx
        exact i2 x hx
    · have e : pos (a :: r) f = 0 := by
        unfold pos
        rw [List.countP_eq_zero]
        intro x hx
        rcases List.mem_cons.1 hx with rfl | hx
        · simpa using ha
        · have := h1 x hx
          simp
          intro hc
          exact ha (ltF_trans this hc)
      rw [e]
      refine ⟨fun x hx => by simp at hx, fun x hx hc => ?_⟩
      rcases List.mem_cons.1 (by simpa using hx : x ∈ a :: r) with rfl | hx
      · exact ha hc
      · exact ha (ltF_trans (h1 x hx) hc)
theorem mem_ins {l : List S28} {i : Nat} {f x : S28} : x ∈ ins l i f ↔ x = f ∨ x ∈ l := by
  unfold ins
  rw [List.mem_append, List.mem_cons]
  constructor
  · rintro (h | h | h)
    · exact .inr (List.mem_of_mem_take h)
    · exact .inl h
    · exact .inr (List.mem_of_mem_drop h)
  · rintro (h | h)
    · exact .inr (.inl h)
    · rw [← List.take_append_drop i l, List.mem_append] at h
      exact h.elim .inl (fun h => .inr (.inr h))
theorem isIn_iff {l : List S28} {p : Nat} : isIn l p = true ↔ ∃ x ∈ l, x.f1 = (p : Int) := by
  unfold isIn
  simp
theorem sorted_ins {l : List S28} {f : S28} (h : l.Pairwise ltF) (hne : ∀ x ∈ l, x.f1 ≠ f.f1) : (ins l (pos l f) f).Pairwise ltF := by
  obtain ⟨h1, h2⟩ := pos_spec (f := f) h
  unfold ins
  rw [List.pairwise_append, List.pairwise_cons]
  have h3 : ∀ x ∈ l.drop (pos l f), ltF f x := fun x hx => by
    have := h2 x hx
    have := hne x (List.mem_of_mem_drop hx)
    unfold ltF at *
    omega
  refine ⟨h.sublist (List.take_sublist _ _), ⟨h3, h.sublist (List.drop_sublist _ _)⟩, fun x hx y hy => ?_⟩
  rcases List.mem_cons.1 hy with rfl | hy
  · exact h1 x hx
  · exact ltF_trans (h1 x hx) (h3 y hy)
theorem apart_ins {l : List S28} {i : Nat} {f : S28} (h : l.Pairwise (fun x y => x.f1 ≠ y.f1)) (hne : ∀ x ∈ l, x.f1 ≠ f.f1) : (ins l i f).Pairwise (fun x y => x.f1 ≠ y.f1) := by
  unfold ins
  rw [List.pairwise_append, List.pairwise_cons]
  refine ⟨h.sublist (List.take_sublist _ _), ⟨fun x hx => (hne x (List.mem_of_mem_drop hx)).symm, h.sublist (List.drop_sublist _ _)⟩, fun x hx y hy => ?_⟩
  rcases List.mem_cons.1 hy with rfl | hy
  · exact hne x (List.mem_of_mem_take hx)
  · rw [← List.take_append_drop i l, List.pairwise_append] at h
    exact h.2.2 x hx y hy
theorem isIn_ins {l : List S28} {i : Nat} {f : S28} {p : Nat} : isIn (ins l i f) p = (decide (f.f1 = (p : Int)) || isIn l p) := by
  rw [Bool.eq_iff_iff, isIn_iff, Bool.or_eq_true, isIn_iff, decide_eq_true_iff]
  constructor
  · rintro ⟨x, hx, h⟩
    rcases mem_ins.1 hx with rfl | hx
    · exact .inl h
    · exact .inr ⟨x, hx, h⟩
  · rintro (h | ⟨x, hx, h⟩)
    · exact ⟨f, mem_ins.2 (.inl rfl), h⟩
    · exact ⟨x, mem_ins.2 (.inr hx), h⟩
theorem cell_setCell_ne (w : World) (b o o' : Nat) (u : Value) (h : o ≠ o') : (w.setCell ⟨b, o', none⟩ u).cell? ⟨b, o, none⟩ = w.cell? ⟨b, o, none⟩ :=
  World.cell?_setCell_other _ _ _ _ (fun e => h (by injection e with e1 e2; exact e2.symm))
theorem add_any (w : World) (ok : Nat → Prop) (b : Nat) (l : List S28) (f : S28) (H : ListAt w b ok l) (hok : ∀ k, w.heap.size ≤ k → ok k) :
    Calls Try.prog 11 #[.pointer (some ⟨b, 0, none⟩), .agg #[.int .i64 f.f0, .int .i64 f.f1]] w (AddSt ok b l f w) := by
  by_cases hr : right f
  · obtain ⟨p, hp⟩ : ∃ p : Nat, f.f1 = (p : Int) := ⟨f.f1.toNat, by unfold right at hr; omega⟩
    have hpt : f.f1.toNat = p := by omega
    have hp5 : p < 512 := by unfold right at hr; omega
    have hh := H.here p hp5
    by_cases hin : isIn l p = true
    · rw [hin] at hh
      refine (add_there w b p f hr hp H.lt hh).mono ?_
      rintro e w' ⟨rfl, hb⟩
      refine ⟨by rw [addE, if_pos hr, hpt, if_pos hin], ?_, .of_below hb⟩
      rw [addL, if_neg (by rw [hpt, hin]; simp)]
      exact H.below hb
    · have hin' : isIn l p = false := by simpa using hin
      rw [hin'] at hh
      obtain ⟨v, hv, L⟩ := H.row
      have hlen := length_le H.rights H.apart
      refine (add_ok w ok b p v l f hr hp L H.notok (by omega) (mono_of H.sorted f) hv hh H.froz H.lt).mono ?_
      rintro e w' ⟨rfl, v', w5, hg, hL, rfl⟩
      have hne : ∀ x ∈ l, x.f1 ≠ f.f1 := fun x hx e => hin (isIn_iff.2 ⟨x, hx, by rw [e, hp]⟩)
      have hown : ∀ k, v.ownBlock = some k → ok k ∧ k < w.heap.size := by
        intro k hk
        rcases L with ⟨rfl, _⟩ | ⟨g, off, c, rfl, hg, R⟩
        · cases hk
        · have : g = k := by simpa [Value.ownBlock] using hk
          subst this
          exact ⟨hg, R.lt⟩
      have hnb : some b ≠ v.ownBlock := fun e => H.notok (hown b e.symm).1
      have h5b := hg.block b H.lt hnb
      have hK : Kept ok b w ((w5.setCell ⟨b, 0, none⟩ v').drew.setCell ⟨b, 1 + p, none⟩ (.bool true)) := by
        refine (Kept.of_grown hg (fun k hk _ => .inl (hown k hk).1)).trans ⟨rfl, rfl, rfl, by simp [World.setCell, World.drew], fun k hk h1 h2 => ?_⟩
        rw [Below.heap_setCell _ _ _ _ h1]
        exact Below.heap_setCell w5 _ _ _ h1
      refine ⟨by rw [addE, if_pos hr, hpt, if_neg hin], ?_, hK⟩
      rw [addL, if_pos ⟨hr, by rw [hpt]; exact hin'⟩]
      have c0 : ((w5.setCell ⟨b, 0, none⟩ v').drew.setCell ⟨b, 1 + p, none⟩ (.bool true)).cell? ⟨b, 0, none⟩ = some v' := by
        rw [cell_setCell_ne _ _ _ _ _ (by omega)]
        exact World.cell?_setCell_same w5 _ _ ((World.cell?_of_block (a := ⟨b, 0, none⟩) h5b).trans hv)
      refine ⟨⟨v', c0, ?_⟩, fun q hq => ?_, fun j => ?_, H.notok, fun x hx => ?_, sorted_ins H.sorted hne, apart_ins H.apart hne⟩
      · refine hL.keep (fun k hk hlt => ?_)
        have hk' : ok k := hk.elim (fun h => (hown k h.symm).1) (hok k)
        have hkb : k ≠ b := fun e => H.notok (e ▸ hk')
        refine ⟨?_, hk'⟩
        rw [Below.heap_setCell _ _ _ _ hkb]
        exact Below.heap_setCell w5 _ _ _ hkb
      · rw [isIn_ins, hp]
        by_cases hqp : p = q
        · subst hqp
          simp only [decide_true, Bool.true_or]
          refine World.cell?_setCell_same _ ⟨b, 1 + p, none⟩ _ (u := .bool false) ?_
          show ((w5.setCell ⟨b, 0, none⟩ v').cell? ⟨b, 1 + p, none⟩) = _
          rw [cell_setCell_ne _ _ _ _ _ (by omega)]
          exact (World.cell?_of_block (a := ⟨b, 1 + p, none⟩) h5b).trans hh
        · have : decide ((p : Int) = (q : Int)) = false := decide_eq_false (by omega)
          rw [this, Bool.false_or, cell_setCell_ne _ _ _ _ _ (by omega)]
          show ((w5.setCell ⟨b, 0, none⟩ v').cell? ⟨b, 1 + q, none⟩) = _
          rw [cell_setCell_ne _ _ _ _ _ (by omega)]
          exact (World.cell?_of_block (a := ⟨b, 1 + q, none⟩) h5b).trans (H.here q hq)
      · rw [World.frozen?_setCell]
        show ((w5.setCell ⟨b, 0, none⟩ v').frozen? ⟨b, j, none⟩) = _
        rw [World.frozen?_setCell]
        exact (World.frozen?_of_block (a := ⟨b, j, none⟩) h5b).trans (H.froz j)
      · rcases mem_ins.1 hx with rfl | hx
        · exact hr
        · exact H.rights x hx
  · refine (add_bad w b f hr).mono ?_
    rintro e w' ⟨rfl, hb⟩
    refine ⟨by rw [addE, if_neg hr], ?_, .of_below hb⟩
    rw [addL, if_neg (fun h => hr h.1)]
    exact H.below hb
#print axioms add_any
end Go.Proofs.Ytcoddeemfdnjpaa.Free
