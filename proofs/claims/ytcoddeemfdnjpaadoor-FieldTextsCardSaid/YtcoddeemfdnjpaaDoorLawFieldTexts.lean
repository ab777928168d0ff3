/- A text is laid behind another one, and taken from there as it was, with the place behind it; so any bytes are taken (FieldTexts): for every three texts and every place; Go's own tables hold what their texts lay (tied, one of them pinned). No further condition. -/
import Derived.Test.YtcoddeemfdnjpaaDoorBaseP
import Derived.Test.YtcoddeemfdnjpaaDoorTextsWalk
namespace Go.Proofs.YtcoddeemfdnjpaaDoor.lawFieldTexts
open Go.ChangeShapes Go.WideShapes Go.ChangeAt Go.RowKit Go.ChangeMaps

set_option maxRecDepth 100000 in
theorem contract (H : Type) (enc : TypeId × Value → H) (W : World) (base : Nat) (args : Array Value) (ds gs : List (DataW H)) (before : List MemPlace)
    (hval : ∀ (j : Nat) t v, Tryd.f17.params[j]? = some t → args[j]? = some v → Value.okWide Tryd.prog W .any base t v)
    (_hsz : (DataW.weightsEach Tryd.prog (Tryd.f17.params.toList ++ Rows.fieldTextsSpec.plain.varTypes Tryd.prog) (ds ++ gs)).all (· ≤ reachBytes) = true)
    (hW : DataW.Whole enc Tryd.prog Tryd.f17.params.toList Rows.fieldTextsSpec.vars false W args.toList ds gs before) (_hL : laidMetH Tryd.prog Rows.fieldTextsRow.laid W) (_hSh : W.ShapedOpen Tryd.prog) :
    Calls Tryd.prog 17 args W fun e W' => ∃ v, e = .returned v ∧ Rows.fieldTextsSpec.post enc Tryd.prog Tryd.f17 false true false false W args v W' := by
  have hW' := hW
  obtain ⟨p, q, hA0, hV, rfl, hfz, hnd⟩ := hW
  have hA : DataW.TrodAll enc Tryd.prog W 0 (fun _ => true) true Tryd.f17.params.toList args.toList ds p := hA0
  rw [Tryd.params17] at hA hval
  obtain ⟨v0, vs0, d0, ds0, p0, q0, hargs, rfl, rfl, h0, r0⟩ := trodAll_cons hA
  obtain ⟨v1, vs1, d1, ds1, p1, q1, rfl, rfl, rfl, h1, r1⟩ := trodAll_cons r0
  obtain ⟨v2, vs2, d2, ds2, p2, q2, rfl, rfl, rfl, h2, r2⟩ := trodAll_cons r1
  obtain ⟨v3, vs3, d3, ds3, p3, q3, rfl, rfl, rfl, h3, r3⟩ := trodAll_cons r2
  obtain ⟨rfl, rfl, rfl⟩ := trodAll_nil r3
  obtain rfl : args = #[v0, v1, v2, v3] := by cases args; simp_all
  obtain ⟨rfl, rfl⟩ := trodVars_none hV
  obtain ⟨x0, rfl, rfl, rfl, w0⟩ := open_string Tryd.underlying9 (hval 0 9 v0 (by simp) (by simp)) h0
  have z0 : x0.size ≤ 140737488351232 := by
    have hz := sized_string _hsz (j := 0) (t := 9) (bytes := x0.data.toList) (by kernel_rfl) rfl
    simpa [reachBytes] using hz
  obtain ⟨x1, rfl, rfl, rfl, w1⟩ := open_string Tryd.underlying9 (hval 1 9 v1 (by simp) (by simp)) h1
  have z1 : x1.size ≤ 140737488351232 := by
    have hz := sized_string _hsz (j := 1) (t := 9) (bytes := x1.data.toList) (by kernel_rfl) rfl
    simpa [reachBytes] using hz
  obtain ⟨x2, rfl, rfl, rfl, w2⟩ := open_string Tryd.underlying9 (hval 2 9 v2 (by simp) (by simp)) h2
  have z2 : x2.size ≤ 140737488351232 := by
    have hz := sized_string _hsz (j := 2) (t := 9) (bytes := x2.data.toList) (by kernel_rfl) rfl
    simpa [reachBytes] using hz
  obtain ⟨x3, rfl, rfl, rfl, w3⟩ := open_int Tryd.underlying3 (hval 3 3 v3 (by simp) (by simp)) h3
  have bd3 := bounds_i64 w3
  clear hA0
  simp only [List.append_nil] at hW'
  have walk : Calls Tryd.prog 17 #[.string x0, .string x1, .string x2, .int .i64 x3] W fun e w' => e = .returned (.bool true) ∧ Below W.heap.size W w' := by
    obtain ⟨m, hm⟩ := maxLen_cell _hSh
    exact fieldTexts_walk x0 x1 x2 x3 m W hm
  refine walk.mono fun e W' ⟨he, hg⟩ => ?_
  subst he
  exact ⟨_, rfl, post_below (pa := []) (pv := []) hW' (fun _ _ _ => trodAll_cons_mk (shut_bool Tryd.underlying4 _) trodAll_mk0) (trodAll_cons_mk (shut_string Tryd.underlying9 w0) (trodAll_cons_mk (shut_string Tryd.underlying9 w1) (trodAll_cons_mk (shut_string Tryd.underlying9 w2) (trodAll_cons_mk (shut_int Tryd.underlying3 w3) trodAll_mk0)))) rfl rfl hg⟩

theorem laid_met (os : Os) : laidMet Tryd.prog Rows.fieldTextsRow.laid ((laidWorldP os).forCall (fun _ _ => 0) ⟨#[], #[Value.string ⟨#[]⟩, Value.string ⟨#[]⟩, Value.string ⟨#[]⟩, Value.int .i64 0], []⟩).memory :=
  laidMet_of_run' 8 (by kernel_rfl) (by kernel_rfl)
theorem reads (os : Os) {H : Type} (enc : TypeId × Value → H) : ∃ places, DataW.whole enc Tryd.prog ((laidWorldP os).forCall (fun _ _ => 0) ⟨#[], #[Value.string ⟨#[]⟩, Value.string ⟨#[]⟩, Value.string ⟨#[]⟩, Value.int .i64 0], []⟩).memory Tryd.f17.params.toList Rows.fieldTextsSpec.vars false (#[Value.string ⟨#[]⟩, Value.string ⟨#[]⟩, Value.string ⟨#[]⟩, Value.int .i64 0] : Array Value).toList 8 = some ([.lit (.string []), .lit (.string []), .lit (.string []), .lit (.int .i64 0)], [], places) :=
  ⟨[], by kernel_rfl⟩

set_option maxRecDepth 100000 in
theorem lifted (os : Os) (started : os.Started) (H : Type) (enc : TypeId × Value → H) (F : Stop.Interp) :
    ReturnsInHanded {} Tryd.checked os 17 .any ((OpenSpec.ofChange Rows.fieldTextsSpec).preRow enc Tryd.prog Tryd.f17 Rows.fieldTextsRow.domain false Rows.fieldTextsRow.laid) (((OpenSpec.ofChange Rows.fieldTextsSpec).at F).post enc Tryd.prog Tryd.f17 false true false false) := by
  obtain ⟨places, hx⟩ := reads os enc
  refine returnsInHanded_of_row (C := Tryd.checked) (s := OpenSpec.ofChange Rows.fieldTextsSpec) own started (by kernel_rfl) Tryd.func17
    (witness_row_at (enc := enc) (C := Tryd.checked) false (laidWorldP os) #[Value.string ⟨#[]⟩, Value.string ⟨#[]⟩, Value.string ⟨#[]⟩, Value.int .i64 0] rfl (by kernel_rfl) (by kernel_rfl) (by kernel_rfl)
      (OpenSpec.preRow_of_cond 8 hx (by kernel_rfl) (fun k hk => by cases hk) (by kernel_rfl) (laid_met os))) ?_
  intro W base args ds gs before hval hW _ _ _hsz _hL _hSh _
  exact contract H enc W base args ds gs before hval _hsz hW _hL _hSh

set_option maxHeartbeats 4000000 in
theorem closed : joinedFacts Tryd.prog 17 Tryd.f17 Rows.fieldTextsSpec Rows.fieldTextsRow = true := by
  unfold joinedFacts
  repeat' (with_reducible refine and_intro ?_ ?_)
  all_goals first
    | (with_reducible exact laidOut)
    | (with_reducible exact mapsAre)
    | (with_reducible exact stopsHeard)
    | (with_reducible exact mayEnter)
    | ((with_reducible refine liftsAre' _ ?_); rfl)
    | ((with_reducible refine makeIs' _ ?_); rfl)
    | (as_aux_lemma => kernel_rfl)
theorem closed1 : joinedFacts Tryd.pinned.checked.prog 17 Tryd.f17 (OpenSpec.ofChange Rows.fieldTextsSpec).bare Rows.fieldTextsRow = true := by
  rw [progIs]
  exact closed
theorem named : Tryd.prog.funcNamed "rollbook/rollbooklaw01.FieldTexts" = some 17 := by kernel_rfl
theorem named1 : Tryd.pinned.checked.prog.funcNamed Rows.fieldTextsRow.func = some 17 := by
  rw [progIs]
  exact named
theorem said : Rows.FieldTextsSaid :=
  OpenClaim.holds_of_cond 17 Tryd.f17 rfl rfl rfl rfl rfl rfl rfl ⟨rfl, rfl, rfl, rfl, rfl⟩ rfl rfl rfl rfl rfl named1 Tryd.func17 closed1
    (of_decide_eq_true (by kernel_rfl)) (by unfold Func.isWrapper; first | (rw [if_pos (by decide +kernel)]; kernel_rfl) | (rw [if_neg (by decide +kernel)]; exact ⟨rfl, rfl⟩))
    (fun os started H enc _ F => by rw [OpenClaim.pre_eq_preRow]; exact lifted os started H enc F)

theorem plain (f : FuncId) (fn : Func) (hf : Tryd.pinned.checked.prog.funcNamed "rollbook/rollbooklaw01.FieldTexts" = some f) (hfn : Tryd.pinned.checked.prog.funcs[f]? = some fn) :
    false = Tryd.pinned.checked.prog.looks [] ∧ ∀ (j : Nat) t, fn.params[j]? = some t → Tryd.pinned.checked.prog.wantsStandIn t = false := by
  obtain rfl : f = 17 := Option.some.inj (named.symm.trans hf) |>.symm
  obtain rfl : fn = Tryd.f17 := (Option.some.inj (Tryd.func17.symm.trans hfn)).symm
  refine ⟨noLooks, fun j t ht => ?_⟩
  rw [Tryd.params17] at ht
  have hm := Array.mem_of_getElem? ht
  simp only [List.mem_toArray, List.mem_cons, List.not_mem_nil, or_false] at hm
  rcases hm with rfl | rfl | rfl | rfl
  · exact (show Tryd.prog.wantsStandIn 9 = false by kernel_rfl)
  · exact (show Tryd.prog.wantsStandIn 9 = false by kernel_rfl)
  · exact (show Tryd.prog.wantsStandIn 9 = false by kernel_rfl)
  · exact (show Tryd.prog.wantsStandIn 3 = false by kernel_rfl)

/-- THE CARD. -/
theorem card : Rows.FieldTextsCardSaid :=
  Claim7.holds_tied_plain_at .later [] _ _ _ _ said (fun _ h => by cases h) (by kernel_rfl) (fun _ h => by cases h) fieldTexts_row_tie rfl ⟨rfl, rfl⟩ harnessMain rfl plain (by kernel_rfl)
end Go.Proofs.YtcoddeemfdnjpaaDoor.lawFieldTexts
