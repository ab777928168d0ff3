/- A list of texts is laid as one, and read again as it was; what is too much is refused (FieldTuples): for every list of texts; Go's own tables hold what their texts lay (tied, one of them pinned). No further condition. -/
import Derived.Test.YtcoddeemfdnjpaaDoorBaseP
import Derived.Test.YtcoddeemfdnjpaaDoorTuplesWalk
import Derived.Test.YtcoddeemfdnjpaaDoorOpenRow
namespace Go.Proofs.YtcoddeemfdnjpaaDoor.lawFieldTuples
open Go.ChangeShapes Go.WideShapes Go.ChangeAt Go.RowKit Go.ChangeMaps

set_option maxRecDepth 100000 in
theorem contract (H : Type) (enc : TypeId × Value → H) (W : World) (base : Nat) (args : Array Value) (ds gs : List (DataW H)) (before : List MemPlace)
    (hval : ∀ (j : Nat) t v, Tryd.f15.params[j]? = some t → args[j]? = some v → Value.okWide Tryd.prog W .any base t v)
    (_hsz : (DataW.weightsEach Tryd.prog (Tryd.f15.params.toList ++ Rows.fieldTuplesSpec.plain.varTypes Tryd.prog) (ds ++ gs)).all (· ≤ reachBytes) = true)
    (hW : DataW.Whole enc Tryd.prog Tryd.f15.params.toList Rows.fieldTuplesSpec.vars false W args.toList ds gs before) (_hL : laidMetH Tryd.prog Rows.fieldTuplesRow.laid W) (_hSh : W.ShapedOpen Tryd.prog) :
    Calls Tryd.prog 15 args W fun e W' => ∃ v, e = .returned v ∧ Rows.fieldTuplesSpec.post enc Tryd.prog Tryd.f15 false true false false W args v W' := by
  have hW' := hW
  obtain ⟨p, q, hA0, hV, rfl, hfz, hnd⟩ := hW
  have hA : DataW.TrodAll enc Tryd.prog W 0 (fun _ => true) true Tryd.f15.params.toList args.toList ds p := hA0
  rw [Tryd.params15] at hA hval
  have hlt := DataW.TrodAll.lt hA
  obtain ⟨v0, vs0, d0, ds0, p0, q0, hargs, rfl, rfl, h0, r0⟩ := trodAll_cons hA
  obtain ⟨rfl, rfl, rfl⟩ := trodAll_nil r0
  obtain rfl : args = #[v0] := by cases args; simp_all
  obtain ⟨rfl, rfl⟩ := trodVars_none hV
  have k0 := h0
  obtain ⟨a0, n0, c0, rfl⟩ := okWide_slice Tryd.underlying62 (hval 0 62 v0 (by simp) (by simp))
  obtain ⟨l0, hn0, hc0, hC0, hz0⟩ := open_row h0
  subst hn0
  clear hA0
  simp only [List.append_nil] at hW'
  have walk : Calls Tryd.prog 15 #[.slice a0 l0.length c0] W fun e w' => e = .returned (.bool true) ∧ Below W.heap.size W w' := by
    obtain ⟨m, hm⟩ := maxLen_cell _hSh
    exact fieldTuples_walk a0 c0 l0 m W hC0 hc0 hm
  refine walk.mono fun e W' ⟨he, hg⟩ => ?_
  subst he
  exact ⟨_, rfl, post_below (pa := _) (pv := []) hW' (fun _ _ _ => trodAll_cons_mk (shut_bool Tryd.underlying4 _) trodAll_mk0) (trodAll_cons_mk (Below.trod laidOut (by kernel_rfl) (of_decide_eq_true (by kernel_rfl)) k0 hg (fun x hx => hlt x (by simp [hx]))) trodAll_mk0) rfl (by simp) hg⟩

theorem laid_met (os : Os) : laidMet Tryd.prog Rows.fieldTuplesRow.laid ((laidWorldP os).forCall (fun _ _ => 0) ⟨#[], #[Value.slice none 0 0], []⟩).memory :=
  laidMet_of_run' 8 (by kernel_rfl) (by kernel_rfl)
theorem reads (os : Os) {H : Type} (enc : TypeId × Value → H) : ∃ places, DataW.whole enc Tryd.prog ((laidWorldP os).forCall (fun _ _ => 0) ⟨#[], #[Value.slice none 0 0], []⟩).memory Tryd.f15.params.toList Rows.fieldTuplesSpec.vars false (#[Value.slice none 0 0] : Array Value).toList 8 = some ([.nil], [], places) :=
  ⟨[], by kernel_rfl⟩

set_option maxRecDepth 100000 in
theorem lifted (os : Os) (started : os.Started) (H : Type) (enc : TypeId × Value → H) (F : Stop.Interp) :
    ReturnsInHanded {} Tryd.checked os 15 .any ((OpenSpec.ofChange Rows.fieldTuplesSpec).preRow enc Tryd.prog Tryd.f15 Rows.fieldTuplesRow.domain false Rows.fieldTuplesRow.laid) (((OpenSpec.ofChange Rows.fieldTuplesSpec).at F).post enc Tryd.prog Tryd.f15 false true false false) := by
  obtain ⟨places, hx⟩ := reads os enc
  refine returnsInHanded_of_row (C := Tryd.checked) (s := OpenSpec.ofChange Rows.fieldTuplesSpec) own started (by kernel_rfl) Tryd.func15
    (witness_row_at (enc := enc) (C := Tryd.checked) false (laidWorldP os) #[Value.slice none 0 0] rfl (by kernel_rfl) (by kernel_rfl) (by kernel_rfl)
      (OpenSpec.preRow_of_cond 8 hx (by kernel_rfl) (fun k hk => by cases hk) (by kernel_rfl) (laid_met os))) ?_
  intro W base args ds gs before hval hW _ _ _hsz _hL _hSh _
  exact contract H enc W base args ds gs before hval _hsz hW _hL _hSh

set_option maxHeartbeats 4000000 in
theorem closed : joinedFacts Tryd.prog 15 Tryd.f15 Rows.fieldTuplesSpec Rows.fieldTuplesRow = true := by
  unfold joinedFacts
  repeat' (with_reducible refine and_intro ?_ ?_)
  all_goals first
    | (with_reducible exact laidOut)
    | (with_reducible exact mapsAre)
    | (with_reducible exact stopsHeard)
    | (with_reducible exact mayEnter)
    | ((with_reducible refine liftsAre' _ ?_); rfl)
    | ((with_reducible refine makeIs' _ ?_); rfl)
    | (as_aux_lemma => kernel_rfl)
theorem closed1 : joinedFacts Tryd.pinned.checked.prog 15 Tryd.f15 (OpenSpec.ofChange Rows.fieldTuplesSpec).bare Rows.fieldTuplesRow = true := by
  rw [progIs]
  exact closed
theorem named : Tryd.prog.funcNamed "rollbook/rollbooklaw01.FieldTuples" = some 15 := by kernel_rfl
theorem named1 : Tryd.pinned.checked.prog.funcNamed Rows.fieldTuplesRow.func = some 15 := by
  rw [progIs]
  exact named
theorem said : Rows.FieldTuplesSaid :=
  OpenClaim.holds_of_cond 15 Tryd.f15 rfl rfl rfl rfl rfl rfl rfl ⟨rfl, rfl, rfl, rfl, rfl⟩ rfl rfl rfl rfl rfl named1 Tryd.func15 closed1
    (of_decide_eq_true (by kernel_rfl)) (by unfold Func.isWrapper; first | (rw [if_pos (by decide +kernel)]; kernel_rfl) | (rw [if_neg (by decide +kernel)]; exact ⟨rfl, rfl⟩))
    (fun os started H enc _ F => by rw [OpenClaim.pre_eq_preRow]; exact lifted os started H enc F)

theorem plain (f : FuncId) (fn : Func) (hf : Tryd.pinned.checked.prog.funcNamed "rollbook/rollbooklaw01.FieldTuples" = some f) (hfn : Tryd.pinned.checked.prog.funcs[f]? = some fn) :
    false = Tryd.pinned.checked.prog.looks [] ∧ ∀ (j : Nat) t, fn.params[j]? = some t → Tryd.pinned.checked.prog.wantsStandIn t = false := by
  obtain rfl : f = 15 := Option.some.inj (named.symm.trans hf) |>.symm
  obtain rfl : fn = Tryd.f15 := (Option.some.inj (Tryd.func15.symm.trans hfn)).symm
  refine ⟨noLooks, fun j t ht => ?_⟩
  rw [Tryd.params15] at ht
  have hm := Array.mem_of_getElem? ht
  simp only [List.mem_toArray, List.mem_cons, List.not_mem_nil, or_false] at hm
  rcases hm with rfl
  · exact (show Tryd.prog.wantsStandIn 62 = false by kernel_rfl)

/-- THE CARD. -/
theorem card : Rows.FieldTuplesCardSaid :=
  Claim7.holds_tied_plain_at .later [] _ _ _ _ said (fun _ h => by cases h) (by kernel_rfl) (fun _ h => by cases h) fieldTuples_row_tie rfl ⟨rfl, rfl⟩ harnessMain rfl plain (by kernel_rfl)
end Go.Proofs.YtcoddeemfdnjpaaDoor.lawFieldTuples
