/- The reference's Take. -/
import Derived.Test.YtcoddeemfdnjpaaFreeRefAdd
import Derived.Test.YtcoddeemfdnjpaaFn33
import Derived.Deep.RegionHeld3
set_option linter.unusedVariables false
namespace Go.Proofs.Ytcoddeemfdnjpaa.Free
open Go.RowKit Go.Lib Go.Proofs.Ytcoddeemfdnjpaa.Fn
theorem less_any (a b : S28) (w : World) : Calls Try.prog 33 #[.agg #[.int .i64 a.f0, .int .i64 a.f1], .agg #[.int .i64 b.f0, .int .i64 b.f1]] w fun e w' => e = .returned (.bool (decide (ltF a b))) ∧ Below w.heap.size w w' :=
  rollbookref08_Less.calls a.f0 a.f1 b.f0 b.f1 _ w (by
    unfold rollbookref08_Less.f
    by_cases h1 : a.f0 < b.f0
    · simp [h1, ltF]
    · by_cases h2 : a.f0 = b.f0
      · simp [h2, ltF]
      · simp [h1, h2, ltF])
/-- what the reference's 'Take' tells and leaves, by the list in order -/
def RefTakeSt (ok : Nat → Prop) (b : Nat) (l : List S28) (n : Int) (w : World) (e : Ending) (w' : World) : Prop :=
  e = .returned (.tuple #[.int .i64 (takeP l n), .bool (takeB l n)]) ∧ (∃ r', List.Perm r' (takeL l n) ∧ RefAt w' b ok r') ∧ Kept ok b w w'
theorem wpList_append_runI {P : Program} {w : World} {ops : Array Oper} {rest : List Oper} {o : Oper} {a : Act} {Q : Exit → Act → World → Prop}
    (hg : o.guard = none) (d x : Operand) (dT sT : TypeId) (hop : o.op = Op.call { callee := Callee.builtin Builtin.append, args := #[d, x], argTypes := #[dT, sT] })
    (v u : Value) (hd : a.eval d = v) (hx : a.eval x = u) {v' : Value} {w' : World} (hr : (Builtin.append_ #[dT, sT] o.type #[v, u]).run P w = .ok v' w') (h : wpList P ops Q rest (a.put o.dst v') w') :
    wpList P ops Q (o :: rest) a w :=
  wpList_plain hg fun K hK => by
    unfold Oper.wp
    simp [execOp, hop, resolve, invoke, builtin, hd, hx, hr, Result.andThen]
    exact hK _ _ h
set_option maxHeartbeats 1600000 in
set_option maxRecDepth 100000 in
theorem refTake_any (w : World) (ok : Nat → Prop) (b : Nat) (r l : List S28) (n : Int) (H : RefAt w b ok r) (hok : ∀ k, w.heap.size ≤ k → ok k) (hp : r.Perm l) (hs : l.Pairwise ltF) (hl : r.length ≤ 1000) :
    Calls Try.prog 16 #[.pointer (some ⟨b, 0, none⟩), .int .i64 n] w (RefTakeSt ok b l n w) := by
  obtain ⟨v, hv, L⟩ := H.row
  have hvs : ∃ A c, v = .slice A r.length c ∧ (r = [] ∨ ∃ g off, A = some ⟨g, off, none⟩ ∧ Row w g off c r) := by
    rcases L with ⟨rfl, rfl⟩ | ⟨g, off, c, rfl, _, R⟩
    · exact ⟨_, _, rfl, .inl rfl⟩
    · exact ⟨_, _, rfl, .inr ⟨_, _, rfl, R⟩⟩
  obtain ⟨A, c, rfl, hR⟩ := hvs
  have hR' := Lib.hid hR
  have hb := H.lt
  have H' := Lib.hid H
  have hok' := Lib.hid hok
  have hp' := Lib.hid hp
  have hs' := Lib.hid hs
  obtain ⟨m, hm⟩ : ∃ m, m = r.length := ⟨_, rfl⟩
  have hm' := Lib.hid hm
  rw [← hm] at hv hl
  have hcb := Lib.hid (fun (u : World) (hu : Below w.heap.size w u) => ((hu.cell (p := ⟨b, 0, none⟩) hb).trans hv : u.cell? ⟨b, 0, none⟩ = some (.slice A m c)))
  clear H L hR hm hok hp hs hv
  go_enter Try.func16, Try.ntmps16
  go_wp2_with fail
  go_loopw [6, 7] (fun p i wr => ∃ (k : Nat) (a : Int), k ≤ m ∧ p = .int .i64 a ∧ i = .int .i64 k ∧ Hid (Best r n k a) ∧ Hid (Below w.heap.size w wr)) (fun _ i _ => m - (RowKit.intOf i).toNat)
  case atStart => exact ⟨0, -1, by omega, rfl, rfl, Best.zero r n, Below.refl _ _⟩
  case round =>
    obtain ⟨k, a, hk, rfl, rfl, hB, hW⟩ := hrel
    have c0 := hcb.out _ hW.out
    by_cases hlt : k < m
    · have hkl : k < r.length := by rw [← hm'.out]; exact hlt
      obtain ⟨g, off, rfl, R⟩ := hR'.out.resolve_left (fun e => by rw [e] at hkl; simp at hkl)
      have HR := Lib.hid (fun (u : World) (hu : Below w.heap.size w u) => R.keep (hu.block g R.lt))
      have a0 := (HR.out _ hW.out).at0 k hkl
      have a1 := (HR.out _ hW.out).at1 k hkl
      clear R
      have q1 : (k : Int) < (m : Int) := by omega
      have q0 : (0 : Int) ≤ (k : Int) := by omega
      obtain ⟨x, hx⟩ : ∃ x, x = r[k] := ⟨_, rfl⟩
      rw [← hx] at a0 a1
      have hx' := Lib.hid hx
      clear hx
      by_cases hn : x.f0 ≤ n
      · have hn2 : decide (x.f0 ≤ n) = true := decide_eq_true hn
        rcases hB.out.cases with rfl | ⟨j, rfl, hj, hjk⟩
        · have hB2 := Lib.hid (hB.out.first hkl (by rw [← hx'.out]; exact hn))

          go_wp2_with fail
          go_quiet (fail)
          go_wp2
          go_roundw
          case rel => exact ⟨k + 1, _, by omega, rfl, by go_num, hB2.out, below_drewN nq hW.out⟩
          case measure => simp [RowKit.intOf]; omega
        · have q3 : (j : Int) < (m : Int) := by omega
          have q4 : (0 : Int) ≤ (j : Int) := by omega
          have q5 : decide ((j : Int) < 0) = false := decide_eq_false (by omega)
          obtain ⟨y, hy⟩ : ∃ y, y = r[j] := ⟨_, rfl⟩
          have HC := Lib.hid (fun (u : World) (hu : Below w.heap.size w u) => (⟨hcb.out _ hu, by rw [hx'.out]; exact (HR.out _ hu).at0 k hkl, by rw [hx'.out]; exact (HR.out _ hu).at1 k hkl, by rw [hy]; exact (HR.out _ hu).at0 j hj, by rw [hy]; exact (HR.out _ hu).at1 j hj, hu⟩ :
              u.cell? ⟨b, 0, none⟩ = some (.slice (some ⟨g, off, none⟩) m c) ∧ u.cell? ⟨g, off + k * 2, none⟩ = some (.int .i64 x.f0) ∧ u.cell? ⟨g, off + k * 2 + 1, none⟩ = some (.int .i64 x.f1) ∧
                u.cell? ⟨g, off + j * 2, none⟩ = some (.int .i64 y.f0) ∧ u.cell? ⟨g, off + j * 2 + 1, none⟩ = some (.int .i64 y.f1) ∧ Hid (Below w.heap.size w u)))
          have d0 := Lib.hid hW.out.drew
          clear a0 a1 c0
          by_cases hle : ltF x y
          · have hB2 := Lib.hid (hB.out.less hkl hj (by rw [← hx'.out]; exact hn) (by rw [← hx'.out, ← hy]; exact hle))
            have HL := Lib.hid (fun (u : World) (hu : Below w.heap.size w u) => (less_any x y u).mono (fun e w' h => (⟨by rw [h.1, decide_eq_true hle], hu.trans (h.2.mono hu.size)⟩ : e = .returned (.bool true) ∧ Below w.heap.size w w')))
            clear hle hy
            obtain ⟨c0, e0, e1, e2, e3, -⟩ := HC.out _ hW.out
            go_wp2_with fail
            go_region_held3 (fun u => u.cell? ⟨b, 0, none⟩ = some (.slice (some ⟨g, off, none⟩) m c) ∧ u.cell? ⟨g, off + k * 2, none⟩ = some (.int .i64 x.f0) ∧ u.cell? ⟨g, off + k * 2 + 1, none⟩ = some (.int .i64 x.f1) ∧
                u.cell? ⟨g, off + j * 2, none⟩ = some (.int .i64 y.f0) ∧ u.cell? ⟨g, off + j * 2 + 1, none⟩ = some (.int .i64 y.f1) ∧ Hid (Below w.heap.size w u))
              (first | exact HC.out _ d0.out | exact HC.out _ (by assumption))
              (first | (go_at_call 33; refine (HL.out _ ?_).mono ?_; (first | exact d0.out | exact (‹_ ∧ _ ∧ _ ∧ _ ∧ _ ∧ Hid (Below _ _ _)› : _ ∧ _ ∧ _ ∧ _ ∧ _ ∧ Hid (Below _ _ _)).2.2.2.2.2.out); rintro e w4 ⟨rfl, hHx⟩))
            all_goals
              have hHx' := Lib.hid hHx
              clear hHx
              go_wp2
              go_roundw
              case rel => exact ⟨k + 1, _, by omega, rfl, by go_num, hB2.out, hHx'.out⟩
              case measure => simp [RowKit.intOf]; omega
          · have hB2 := Lib.hid (hB.out.more hkl hj (by rw [← hx'.out, ← hy]; exact hle))
            have HL := Lib.hid (fun (u : World) (hu : Below w.heap.size w u) => (less_any x y u).mono (fun e w' h => (⟨by rw [h.1, decide_eq_false hle], hu.trans (h.2.mono hu.size)⟩ : e = .returned (.bool false) ∧ Below w.heap.size w w')))
            clear hle hy
            obtain ⟨c0, e0, e1, e2, e3, -⟩ := HC.out _ hW.out
            go_wp2_with fail
            go_region_held3 (fun u => u.cell? ⟨b, 0, none⟩ = some (.slice (some ⟨g, off, none⟩) m c) ∧ u.cell? ⟨g, off + k * 2, none⟩ = some (.int .i64 x.f0) ∧ u.cell? ⟨g, off + k * 2 + 1, none⟩ = some (.int .i64 x.f1) ∧
                u.cell? ⟨g, off + j * 2, none⟩ = some (.int .i64 y.f0) ∧ u.cell? ⟨g, off + j * 2 + 1, none⟩ = some (.int .i64 y.f1) ∧ Hid (Below w.heap.size w u))
              (first | exact HC.out _ d0.out | exact HC.out _ (by assumption))
              (first | (go_at_call 33; refine (HL.out _ ?_).mono ?_; (first | exact d0.out | exact (‹_ ∧ _ ∧ _ ∧ _ ∧ _ ∧ Hid (Below _ _ _)› : _ ∧ _ ∧ _ ∧ _ ∧ _ ∧ Hid (Below _ _ _)).2.2.2.2.2.out); rintro e w4 ⟨rfl, hHx⟩))
            all_goals
              have hHx' := Lib.hid hHx
              clear hHx
              go_wp2
              go_roundw
              case rel => exact ⟨k + 1, _, by omega, rfl, by go_num, hB2.out, hHx'.out⟩
              case measure => simp [RowKit.intOf]; omega
      · have hn2 : decide (x.f0 ≤ n) = false := decide_eq_false hn
        have hB2 := Lib.hid (hB.out.late hkl (by rw [← hx'.out]; omega))
        go_wp2_with fail
        go_quiet (fail)
        go_wp2
        go_roundw
        case rel => exact ⟨k + 1, _, by omega, rfl, by go_num, hB2.out, below_drewN nq hW.out⟩
        case measure => simp [RowKit.intOf]; omega
    · have ek : k = m := by omega
      rw [ek] at hB
      clear ek hk
      have q1 : ¬ ((k : Int) < (m : Int)) := hlt ∘ fun h => by omega
      rcases (show a = -1 ∨ ∃ j : Nat, a = (j : Int) ∧ j < r.length from hB.out.cases.imp id (fun ⟨j, h1, h2, _⟩ => ⟨j, h1, h2⟩)) with rfl | ⟨j, rfl, hj⟩
      · obtain ⟨e1, e2, e3⟩ := best_none hp'.out (by have h := hB.out; rwa [hm'.out] at h)
        have hfin := Lib.hid (show RefTakeSt ok b l n w (.returned (.tuple #[.int .i64 0, .bool false])) wr from ⟨by rw [e1, e2], ⟨r, by rw [e3]; exact hp'.out, H'.out.below hW.out⟩, .of_below hW.out⟩)
        clear e1 e2 e3
        go_wp2
        go_ret2
        exact hfin.out
      · obtain ⟨e1, e2, e3⟩ := best_some hp'.out hs'.out hj (by have h := hB.out; rwa [hm'.out] at h)
        obtain ⟨g, off, rfl, R⟩ := hR'.out.resolve_left (fun e => by rw [e] at hj; simp at hj)
        have HR := Lib.hid (fun (u : World) (hu : Below w.heap.size w u) => R.keep (hu.block g R.lt))
        have hg := R.lt
        have b1 := (HR.out _ hW.out).at1 j hj
        obtain ⟨y, hy⟩ : ∃ y, y = r[j].f1 := ⟨_, rfl⟩
        rw [← hy] at b1 e2
        have q3 : (j : Int) < (m : Int) := by have := hm'.out; omega
        have q4 : (0 : Int) ≤ (j : Int) := by omega
        have q5 : ¬ ((j : Int) < 0) := by omega
        have he1 := Lib.hid e1
        have he2 := Lib.hid e2
        have he3 := Lib.hid e3
        clear e1 e2 e3 hy R hB
        go_wp2_with fail
        have B1 := Lib.hid (show Below w.heap.size w (wr.alloc (Obj.cells #[] 28)) from hW.out.alloc hW.out.size _)
        have L1 := Lib.hid (show Lst (wr.alloc (Obj.cells #[] 28)) (fun q => w.heap.size ≤ q) (.slice (some ⟨wr.heap.size, 0, none⟩) 0 0) (skip r j 0) by
          rw [skip_zero]
          refine .inr ⟨wr.heap.size, 0, 0, rfl, hW.out.size, Nat.le_refl _, by omega, fun q u hq => by simp [flat] at hq, fun q hq => by omega, fun q => World.frozen?_alloc_at _ _ _ _ rfl, 0, shape_new wr _ _, fun h => absurd rfl h⟩)
        obtain ⟨w1, hw1⟩ : ∃ w1, w1 = wr.alloc (Obj.cells #[] 28) := ⟨_, rfl⟩
        obtain ⟨z, hz⟩ : ∃ z, z = wr.heap.size := ⟨_, rfl⟩
        rw [← hw1] at B1 L1 ⊢
        rw [← hz] at L1 ⊢
        clear hw1 hz b1 c0 hW
        go_loopw [9, 10] (fun o i wr => ∃ (k : Nat) (A : Option Addr) (N C : Nat), k ≤ m ∧ o = .slice A N C ∧ i = .int .i64 k ∧ Hid (Lst wr (fun q => w.heap.size ≤ q) (.slice A N C) (skip r j k)) ∧ Hid (Below w.heap.size w wr)) (fun _ i _ => m - (RowKit.intOf i).toNat)
        case atStart => exact ⟨0, _, _, _, by omega, rfl, rfl, L1.out, B1.out⟩
        case round =>
          clear B1 L1
          obtain ⟨k, A, N, C, hk, rfl, rfl, hL, hW⟩ := hrel
          have c0 := hcb.out _ hW.out
          by_cases hlt : k < m
          · have hkl : k < r.length := by rw [← hm'.out]; exact hlt
            have q1 : (k : Int) < (m : Int) := by omega
            have q0 : (0 : Int) ≤ (k : Int) := by omega
            by_cases hkj : k = j
            · have hL2 := Lib.hid (by have h := hL.out; rw [hkj] at h ⊢; rw [skip_at r j hj]; exact h : Lst wr (fun q => w.heap.size ≤ q) (.slice A N C) (skip r j (k + 1)))
              have q2 : (k : Int) = (j : Int) := by rw [hkj]
              clear hkj
              go_wp2
              go_roundw
              case rel => exact ⟨k + 1, _, _, _, by omega, rfl, by go_num, hL2.out, hW.out⟩
              case measure => simp [RowKit.intOf]; omega
            · have a0 := (HR.out _ hW.out).at0 k hkl
              have a1 := (HR.out _ hW.out).at1 k hkl
              have hsn := skip_ne r j k hkl hkj
              have hsl := skip_len r j k (Nat.le_of_lt hkl)
              obtain ⟨x, hx⟩ : ∃ x, x = r[k] := ⟨_, rfl⟩
              rw [← hx] at a0 a1 hsn
              clear hx
              have q2 : ¬ ((k : Int) = (j : Int)) := by omega
              have q6 : ((k : Int) == (j : Int)) = false := by simp; omega
              have L3 : Lst (wr.alloc (.cells #[.int .i64 x.f0, .int .i64 x.f1] 28)) (fun q => w.heap.size ≤ q) (.slice A N C) (skip r j k) := hL.out.keep (fun q hq hlt => ⟨Below.heap_alloc _ _ _ hlt, hq⟩)
              obtain ⟨A5, n5, c5, w5, hrun, hL5, hg5⟩ := append_one (wr.alloc (.cells #[.int .i64 x.f0, .int .i64 x.f1] 28)) _ (.slice A N C) (skip r j k) wr.heap.size x L3 (by omega)
                ((World.cell?_alloc_at (w := wr) _ _ wr.heap.size 0 rfl).trans rfl) ((World.cell?_alloc_at (w := wr) _ _ wr.heap.size 1 rfl).trans rfl)
              have hown : ∀ q, (Value.slice A N C).ownBlock = some q → w.heap.size ≤ q := by
                intro q hq
                rcases hL.out with ⟨e, _⟩ | ⟨g', off', c', e, hg', _⟩
                · rw [e] at hq; cases hq
                · rw [e] at hq
                  have : g' = q := by simpa [Value.ownBlock] using hq
                  subst this
                  exact hg'
              have hL2 := Lib.hid (by
                rw [hsn]
                exact hL5.keep (fun q hq _ => ⟨rfl, hq.elim (fun h => hown q h.symm) (fun h => Nat.le_trans hW.out.size (Nat.le_trans (by simp) h))⟩) : Lst w5 (fun q => w.heap.size ≤ q) (.slice A5 n5 c5) (skip r j (k + 1)))
              have hW5 := Lib.hid (show Below w.heap.size w w5 from (hW.out.alloc hW.out.size _).grown hg5 (by have := hW.out.size; simp; omega) (fun q hq => hown q hq))
              have hrun' := Lib.hid hrun
              clear hrun hL5 hg5 hown L3 hsn hsl hkj
              go_wp2_with (at_builtin; refine wpList_append_runI rfl (.tmp 75) (.tmp 83) 39 39 rfl _ _ (by simp [Act.eval]) (by simp [Act.eval]) (hrun'.out _) ?_)
              go_roundw
              case rel => exact ⟨k + 1, _, _, _, by omega, rfl, by go_num, hL2.out, hW5.out⟩
              case measure => simp [RowKit.intOf]; omega
          · have ek : k = m := by omega
            have q1 : ¬ ((k : Int) < (m : Int)) := by omega
            have hfz : wr.frozen? ⟨b, 0, none⟩ = false := by rw [hW.out.frozen hb]; exact H'.out.froz
            have hfin := Lib.hid (show RefTakeSt ok b l n w (.returned (.tuple #[.int .i64 y, .bool true])) (wr.setCell ⟨b, 0, none⟩ (.slice A N C)) from by
              refine ⟨by rw [he1.out, he2.out], ⟨skip r j r.length, he3.out, ⟨_, World.cell?_setCell_same wr _ _ c0, ?_⟩, by rw [World.frozen?_setCell]; exact hfz, H'.out.notok⟩, ?_⟩
              · have h := hL.out
                rw [ek, hm'.out] at h
                exact h.keep (fun q hq hlt => ⟨Below.heap_setCell wr _ _ _ (by show q ≠ b; omega), hok'.out q hq⟩)
              · exact (Kept.of_below hW.out).trans ⟨rfl, rfl, rfl, by simp [World.setCell], fun q _ h1 _ => Below.heap_setCell wr _ _ _ h1⟩)
            clear ek
            go_wp2
            go_ret2
            exact hfin.out
#print axioms refTake_any
end Go.Proofs.Ytcoddeemfdnjpaa.Free
