/- Tuples stand in the order of their lists; one is the beginning of another one just if its list is (FieldOrder): for every two lists of texts; Go's own tables hold what their texts lay (tied, one of them pinned). No further condition. -/
import Derived.Test.YtcoddeemfdnjpaaDoorBaseP
import Derived.Test.YtcoddeemfdnjpaaDoorOrderWalk
import Derived.Test.YtcoddeemfdnjpaaDoorOpenRow
namespace Go.Proofs.YtcoddeemfdnjpaaDoor.lawFieldOrder
open Go.ChangeShapes Go.WideShapes Go.ChangeAt Go.RowKit Go.ChangeMaps

set_option maxRecDepth 100000 in
theorem contract (H : Type) (enc : TypeId × Value → H) (W : World) (base : Nat) (args : Array Value) (ds gs : List (DataW H)) (before : List MemPlace)
    (hval : ∀ (j : Nat) t v, Tryd.f14.params[j]? = some t → args[j]? = some v → Value.okWide Tryd.prog W .any base t v)
    (_hsz : (DataW.weightsEach Tryd.prog (Tryd.f14.params.toList ++ Rows.fieldOrderSpec.plain.varTypes Tryd.prog) (ds ++ gs)).all (· ≤ reachBytes) = true)
    (hW : DataW.Whole enc Tryd.prog Tryd.f14.params.toList Rows.fieldOrderSpec.vars false W args.toList ds gs before) (_hL : laidMetH Tryd.prog Rows.fieldOrderRow.laid W) (_hSh : W.ShapedOpen Tryd.prog) :
    Calls Tryd.prog 14 args W fun e W' => ∃ v, e = .returned v ∧ Rows.fieldOrderSpec.post enc Tryd.prog Tryd.f14 false true false false W args v W' := by
  have hW' := hW
  obtain ⟨p, q, hA0, hV, rfl, hfz, hnd⟩ := hW
  have hA : DataW.TrodAll enc Tryd.prog W 0 (fun _ => true) true Tryd.f14.params.toList args.toList ds p := hA0
  rw [Tryd.params14] at hA hval
  have hlt := DataW.TrodAll.lt hA
  obtain ⟨v0, vs0, d0, ds0, p0, q0, hargs, rfl, rfl, h0, r0⟩ := trodAll_cons hA
  obtain ⟨v1, vs1, d1, ds1, p1, q1, rfl, rfl, rfl, h1, r1⟩ := trodAll_cons r0
  obtain ⟨rfl, rfl, rfl⟩ := trodAll_nil r1
  obtain rfl : args = #[v0, v1] := by cases args; simp_all
  obtain ⟨rfl, rfl⟩ := trodVars_none hV
  have k0 := h0
  obtain ⟨a0, n0, c0, rfl⟩ := okWide_slice Tryd.underlying62 (hval 0 62 v0 (by simp) (by simp))
  obtain ⟨l0, hn0, hc0, hC0, hz0⟩ := open_row h0
  have z0 := row_sized _hsz (j := 0) (by kernel_rfl) rfl hz0
  have k1 := h1
  obtain ⟨a1, n1, c1, rfl⟩ := okWide_slice Tryd.underlying62 (hval 1 62 v1 (by simp) (by simp))
  obtain ⟨l1, hn1, hc1, hC1, hz1⟩ := open_row h1
  have z1 := row_sized _hsz (j := 1) (by kernel_rfl) rfl hz1
  subst hn0
  subst hn1
  clear hA0
  simp only [List.append_nil] at hW'
  have walk : Calls Tryd.prog 14 #[.slice a0 l0.length c0, .slice a1 l1.length c1] W fun e w' => e = .returned (.bool true) ∧ Below W.heap.size W w' := by
    obtain ⟨m, hm⟩ := maxLen_cell _hSh
    exact fieldOrder_walk a0 a1 c0 c1 l0 l1 m W ⟨hC0, hc0, hC1, hc1, z0.1, z1.1, z0.2, z1.2, hm⟩
  refine walk.mono fun e W' ⟨he, hg⟩ => ?_
  subst he
  exact ⟨_, rfl, post_below (pa := _) (pv := []) hW' (fun _ _ _ => trodAll_cons_mk (shut_bool Tryd.underlying4 _) trodAll_mk0) (trodAll_cons_mk (Below.trod laidOut (by kernel_rfl) (of_decide_eq_true (by kernel_rfl)) k0 hg (fun x hx => hlt x (by simp [hx]))) (trodAll_cons_mk (Below.trod laidOut (by kernel_rfl) (of_decide_eq_true (by kernel_rfl)) k1 hg (fun x hx => hlt x (by simp [hx]))) trodAll_mk0)) rfl (by simp) hg⟩

theorem laid_met (os : Os) : laidMet Tryd.prog Rows.fieldOrderRow.laid ((laidWorldP os).forCall (fun _ _ => 0) ⟨#[], #[Value.slice none 0 0, Value.slice none 0 0], []⟩).memory :=
  laidMet_of_run' 8 (by kernel_rfl) (by kernel_rfl)
theorem reads (os : Os) {H : Type} (enc : TypeId × Value → H) : ∃ places, DataW.whole enc Tryd.prog ((laidWorldP os).forCall (fun _ _ => 0) ⟨#[], #[Value.slice none 0 0, Value.slice none 0 0], []⟩).memory Tryd.f14.params.toList Rows.fieldOrderSpec.vars false (#[Value.slice none 0 0, Value.slice none 0 0] : Array Value).toList 8 = some ([.nil, .nil], [], places) :=
  ⟨[], by kernel_rfl⟩

set_option maxRecDepth 100000 in
theorem lifted (os : Os) (started : os.Started) (H : Type) (enc : TypeId × Value → H) (F : Stop.Interp) :
    ReturnsInHanded {} Tryd.checked os 14 .any ((OpenSpec.ofChange Rows.fieldOrderSpec).preRow enc Tryd.prog Tryd.f14 Rows.fieldOrderRow.domain false Rows.fieldOrderRow.laid) (((OpenSpec.ofChange Rows.fieldOrderSpec).at F).post enc Tryd.prog Tryd.f14 false true false false) := by
  obtain ⟨places, hx⟩ := reads os enc
  refine returnsInHanded_of_row (C := Tryd.checked) (s := OpenSpec.ofChange Rows.fieldOrderSpec) own started (by kernel_rfl) Tryd.func14
    (witness_row_at (enc := enc) (C := Tryd.checked) false (laidWorldP os) #[Value.slice none 0 0, Value.slice none 0 0] rfl (by kernel_rfl) (by kernel_rfl) (by kernel_rfl)
      (OpenSpec.preRow_of_cond 8 hx (by kernel_rfl) (fun k hk => by cases hk) (by kernel_rfl) (laid_met os))) ?_
  intro W base args ds gs before hval hW _ _ _hsz _hL _hSh _
  exact contract H enc W base args ds gs before hval _hsz hW _hL _hSh

set_option maxHeartbeats 4000000 in
theorem closed : joinedFacts Tryd.prog 14 Tryd.f14 Rows.fieldOrderSpec Rows.fieldOrderRow = true := by
  unfold joinedFacts
  repeat' (with_reducible refine and_intro ?_ ?_)
  all_goals first
    | (with_reducible exact laidOut)
    | (with_reducible exact mapsAre)
    | (with_reducible exact stopsHeard)
    | (with_reducible exact mayEnter)
    | ((with_reducible refine liftsAre' _ ?_); rfl)
    | ((with_reducible refine makeIs' _ ?_); rfl)
    | (as_aux_lemma => kernel_rfl)
theorem closed1 : joinedFacts Tryd.pinned.checked.prog 14 Tryd.f14 (OpenSpec.ofChange Rows.fieldOrderSpec).bare Rows.fieldOrderRow = true := by
  rw [progIs]
  exact closed
theorem named : Tryd.prog.funcNamed "rollbook/rollbooklaw01.FieldOrder" = some 14 := by kernel_rfl
theorem named1 : Tryd.pinned.checked.prog.funcNamed Rows.fieldOrderRow.func = some 14 := by
  rw [progIs]
  exact named
theorem said : Rows.FieldOrderSaid :=
  OpenClaim.holds_of_cond 14 Tryd.f14 rfl rfl rfl rfl rfl rfl rfl ⟨rfl, rfl, rfl, rfl, rfl⟩ rfl rfl rfl rfl rfl named1 Tryd.func14 closed1
    (of_decide_eq_true (by kernel_rfl)) (by unfold Func.isWrapper; first | (rw [if_pos (by decide +kernel)]; kernel_rfl) | (rw [if_neg (by decide +kernel)]; exact ⟨rfl, rfl⟩))
    (fun os started H enc _ F => by rw [OpenClaim.pre_eq_preRow]; exact lifted os started H enc F)

theorem plain (f : FuncId) (fn : Func) (hf : Tryd.pinned.checked.prog.funcNamed "rollbook/rollbooklaw01.FieldOrder" = some f) (hfn : Tryd.pinned.checked.prog.funcs[f]? = some fn) :
    false = Tryd.pinned.checked.prog.looks [] ∧ ∀ (j : Nat) t, fn.params[j]? = some t → Tryd.pinned.checked.prog.wantsStandIn t = false := by
  obtain rfl : f = 14 := Option.some.inj (named.symm.trans hf) |>.symm
  obtain rfl : fn = Tryd.f14 := (Option.some.inj (Tryd.func14.symm.trans hfn)).symm
  refine ⟨noLooks, fun j t ht => ?_⟩
  rw [Tryd.params14] at ht
  have hm := Array.mem_of_getElem? ht
  simp only [List.mem_toArray, List.mem_cons, List.not_mem_nil, or_false] at hm
  rcases hm with rfl | rfl
  · exact (show Tryd.prog.wantsStandIn 62 = false by kernel_rfl)
  · exact (show Tryd.prog.wantsStandIn 62 = false by kernel_rfl)

/-- THE CARD. -/
theorem card : Rows.FieldOrderCardSaid :=
  Claim7.holds_tied_plain_at .later [] _ _ _ _ said (fun _ h => by cases h) (by kernel_rfl) (fun _ h => by cases h) fieldOrder_row_tie rfl ⟨rfl, rfl⟩ harnessMain rfl plain (by kernel_rfl)
end Go.Proofs.YtcoddeemfdnjpaaDoor.lawFieldOrder
