/- The reference: its list, and Has. -/
import Derived.Test.YtcoddeemfdnjpaaFreeCopyAny
import Derived.Lib.Hide
import Derived.Test.YtcoddeemfdnjpaaFn32
import Derived.Deep.AppendLies
namespace Go.Proofs.Ytcoddeemfdnjpaa.Free
open Go.RowKit Go.Lib Go.Proofs.Ytcoddeemfdnjpaa.Fn
/-- the reference's list in block b -/
structure RefAt (w : World) (b : Nat) (ok : Nat → Prop) (l : List S28) : Prop where
  row : ∃ v, w.cell? ⟨b, 0, none⟩ = some v ∧ Lst w ok v l
  froz : w.frozen? ⟨b, 0, none⟩ = false
  notok : ¬ ok b
theorem RefAt.lt {w : World} {b : Nat} {ok : Nat → Prop} {l : List S28} (h : RefAt w b ok l) : b < w.heap.size := by
  obtain ⟨v, hv, _⟩ := h.row
  exact World.block_lt_of_cell? w _ hv
theorem RefAt.keep {w w' : World} {b : Nat} {ok ok' : Nat → Prop} {l : List S28} (h : RefAt w b ok l) (hb : w'.heap[b]? = w.heap[b]?) (hk : ∀ k, ok k → k < w.heap.size → w'.heap[k]? = w.heap[k]? ∧ ok' k) (hn : ¬ ok' b) : RefAt w' b ok' l := by
  obtain ⟨v, hv, hl⟩ := h.row
  exact ⟨⟨v, (World.cell?_of_block (a := ⟨b, 0, none⟩) hb).trans hv, hl.keep hk⟩, (World.frozen?_of_block (a := ⟨b, 0, none⟩) hb).trans h.froz, hn⟩
theorem RefAt.below {w w' : World} {b : Nat} {ok : Nat → Prop} {l : List S28} (h : RefAt w b ok l) (hb : Below w.heap.size w w') : RefAt w' b ok l :=
  h.keep (hb.block b h.lt) (fun k hk hlt => ⟨hb.block k hlt, hk⟩) h.notok
theorem hasB_snoc (l : List S28) (k : Nat) (n : Int) (h : k < l.length) : hasB (l.take (k + 1)) n = (hasB (l.take k) n || (l[k].f1 == n)) := by
  rw [List.take_succ_eq_append_getElem h]
  unfold hasB
  rw [List.any_append]
  simp
theorem hasB_of {l : List S28} {k : Nat} {n : Int} (h : k < l.length) (he : l[k].f1 = n) : hasB l n = true := by
  unfold hasB
  rw [List.any_eq_true]
  exact ⟨l[k], List.getElem_mem h, by simp [he]⟩
set_option maxHeartbeats 800000 in
set_option maxRecDepth 100000 in
theorem refHas_any (w : World) (ok : Nat → Prop) (b : Nat) (l : List S28) (n : Int) (H : RefAt w b ok l) (hl : l.length ≤ 1000) :
    Calls Try.prog 19 #[.pointer (some ⟨b, 0, none⟩), .int .i64 n] w fun e w' => e = .returned (.bool (hasB l n)) ∧ w' = w := by
  obtain ⟨v, hv, L⟩ := H.row
  have hvs : ∃ A c, v = .slice A l.length c ∧ (l = [] ∨ ∃ g off, A = some ⟨g, off, none⟩ ∧ Row w g off c l) := by
    rcases L with ⟨rfl, rfl⟩ | ⟨g, off, c, rfl, _, R⟩
    · exact ⟨_, _, rfl, .inl rfl⟩
    · exact ⟨_, _, rfl, .inr ⟨_, _, rfl, R⟩⟩
  obtain ⟨A, c, rfl, hR⟩ := hvs
  have hR' := Lib.hid hR
  obtain ⟨m, hm⟩ : ∃ m, m = l.length := ⟨_, rfl⟩
  have hm' := Lib.hid hm
  rw [← hm] at hv hl
  obtain ⟨t, ht⟩ : ∃ t, t = hasB l n := ⟨_, rfl⟩
  have ht' := Lib.hid ht
  rw [← ht]
  clear H L hR hm ht
  go_enter Try.func19, Try.ntmps19
  go_wp2_with fail
  go_loop [5] (fun i => ∃ k : Nat, k ≤ m ∧ i = .int .i64 k ∧ Hid (hasB (l.take k) n = false)) (fun i => m - (RowKit.intOf i).toNat)
  case atStart => exact ⟨0, by omega, rfl, by show hasB [] n = false; rfl⟩
  case round =>
    obtain ⟨k, hk, rfl, hno⟩ := hrel
    by_cases hlt : k < m
    · have hkl : k < l.length := by rw [← hm'.out]; exact hlt
      obtain ⟨g, off, rfl, R⟩ := hR'.out.resolve_left (fun e => by rw [e] at hkl; simp at hkl)
      have a1 := R.at1 k hkl
      have q0 : (0 : Int) ≤ (k : Int) := by omega
      have q1 : (k : Int) < (m : Int) := by omega
      obtain ⟨y, hy⟩ : ∃ y, y = l[k].f1 := ⟨_, rfl⟩
      rw [← hy] at a1
      by_cases he : y = n
      · have htt : t = true := by rw [ht'.out]; exact hasB_of hkl (by rw [← hy]; exact he)
        subst he htt
        clear R hy hkl
        go_wp2
        go_ret
        exact ⟨rfl, rfl⟩
      · have hno2 := Lib.hid (show hasB (l.take (k + 1)) n = false by rw [hasB_snoc l k n hkl, hno.out, ← hy]; simpa using he)
        clear R hy hkl
        go_wp2
        go_round
        case rel => exact ⟨k + 1, by omega, by go_num, hno2.out⟩
        case measure => simp [RowKit.intOf]; omega
    · have ek : k = m := by omega
      have htf : t = false := by rw [ht'.out]; have h := hno.out; rwa [ek, hm'.out, List.take_length] at h
      subst htf
      have q1 : ¬ ((k : Int) < (m : Int)) := by omega
      go_wp2
      go_ret
      exact ⟨rfl, rfl⟩
#print axioms refHas_any
end Go.Proofs.Ytcoddeemfdnjpaa.Free

namespace Go.Proofs.Ytcoddeemfdnjpaa.Free
open Go.RowKit Go.Lib Go.Proofs.Ytcoddeemfdnjpaa.Fn
theorem ins_end (l : List S28) (f : S28) : ins l l.length f = l ++ [f] := by unfold ins; simp
/-- what an append of one free page leaves -/
theorem append_one (w : World) (ok : Nat → Prop) (v : Value) (l : List S28) (vb : Nat) (f : S28) (H : Lst w ok v l) (hn : l.length < 100000)
    (h0 : w.cell? ⟨vb, 0, none⟩ = some (.int .i64 f.f0)) (h1 : w.cell? ⟨vb, 1, none⟩ = some (.int .i64 f.f1)) :
    ∃ A n c w', (∀ ty, (Builtin.append_ #[39, 39] ty #[v, .slice (some ⟨vb, 0, none⟩) 1 1]).run Try.prog w = .ok (.slice A n c) w') ∧ Lst w' (fun k => some k = v.ownBlock ∨ w.heap.size ≤ k) (.slice A n c) (l ++ [f]) ∧ w.grownBy w' v.ownBlock := by
  obtain ⟨i0, hi0, hz0, hzs, hzb⟩ := info_parts info28
  have hsrc : Src Try.prog i0.size 39 (.slice (some ⟨vb, 0, none⟩) 1 1) 1 (flat [f]) w := by rw [hzs]; exact src_one w vb 0 1 f h0 h1
  have el : (l ++ [f]).length = l.length + 1 := by simp
  have grow : ∀ (base : Option Addr) (c : Nat), (Builtin.firstCells i0.size l.length (.slice base l.length c)).run Try.prog w.drew = .ok (flat l).toArray w.drew → c < l.length + 1 →
      ∃ A n c' w', (∀ ty, (Builtin.append_ #[39, 39] ty #[.slice base l.length c, .slice (some ⟨vb, 0, none⟩) 1 1]).run Try.prog w = .ok (.slice A n c') w') ∧ Lst w' (fun k => some k = (Value.slice base l.length c).ownBlock ∨ w.heap.size ≤ k) (.slice A n c') (l ++ [f]) ∧ w.grownBy w' (Value.slice base l.length c).ownBlock := by
    intro base c hold hroom
    have hge := grownCap_ge w (l.length + 1) c 28
    have e1 : flat l ++ flat [f] = flat (l ++ [f]) := by rw [flat_append]
    refine ⟨_, _, _, _, fun ty => run_append_grow_src w 39 39 ty 28 i0 _ Try.underlying39 hi0 hz0 base l.length c (flat l) hold _ 1 (flat [f]) hsrc hroom (by omega) (by rw [hzb]; exact growslice_fits hroom (by omega)), .inr ⟨w.heap.size, 0, _, by rw [el], .inr (Nat.le_refl _), ?_⟩, ⟨rfl, rfl, rfl, by simp, fun k hk _ => Below.heap_alloc _ _ _ hk⟩⟩
    rw [e1]
    exact row_new (w := w.drew) (by rw [el]; exact hge) (cap_le w _ _ (by omega)) (by rw [el, zero_size]; omega)
  rcases H with ⟨rfl, rfl⟩ | ⟨g, off, c, rfl, hg, R⟩
  · exact grow none 0 (by rw [hzs]; exact run_firstCells_none w.drew 2 0 0 0) (by simp)
  · by_cases hroom : l.length + 1 ≤ c
    · refine ⟨_, _, _, _, fun ty => ?_, .inr ⟨g, off, c, by rw [el], .inl rfl, ?_⟩, grown_setCells g (flat [f]) (off + l.length * 2) w⟩
      · have h := run_append_room_src (P := Try.prog) w 39 39 ty 28 i0 Try.underlying39 hi0 g off l.length c (.slice (some ⟨vb, 0, none⟩) 1 1) 1 (flat [f]) hsrc hroom
          (fun j hj => by rw [hzs, Nat.add_assoc]; exact R.here _ (by simp [flat] at hj; omega)) (fun j hj => R.froz _)
        rw [hzs] at h
        exact h
      · have h := row_room hroom R (f := f)
        rw [ins_end] at h
        exact h
    · refine grow _ c ?_ (by omega)
      rw [hzs]
      exact run_firstCells_some w.drew 2 l.length ⟨g, off, none⟩ l.length c (flat l) (flat_length l) (fun j u hj => by rw [Addr.add_lit]; exact R.cells j u hj)
theorem step_append_runI {P : Program} {ops : Array Oper} {o : Oper} {a : Act} {w : World} {K : Act → World → Prop} {Q : Exit → Act → World → Prop} {E : Prop}
    (hg : o.guard = none) (d x : Operand) (dT sT : TypeId) (hop : o.op = Op.call { callee := Callee.builtin Builtin.append, args := #[d, x], argTypes := #[dT, sT] })
    (v u : Value) (hd : a.eval d = v) (hx : a.eval x = u) {v' : Value} {w' : World} (hr : (Builtin.append_ #[dT, sT] o.type #[v, u]).run P w = .ok v' w') (hK : K (a.put o.dst v') w') :
    if Region.wanted o (yielded ops a.tmps) = true then Oper.wp P o a w K Q else E := by
  have hw : Region.wanted o (yielded ops a.tmps) = true := by simp [Region.wanted, hg]
  rw [if_pos hw]
  unfold Oper.wp
  simp [execOp, hop, resolve, invoke, builtin, hd, hx, hr, Result.andThen]
  exact hK
#print axioms append_one
end Go.Proofs.Ytcoddeemfdnjpaa.Free
