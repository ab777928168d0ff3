/- Blanks and runes that are dropped at the ends of a text, and more of them within, change nothing (PrepBlanks): for every two texts and every number; Go's own tables hold what their texts lay (tied, one of them pinned). No further condition. -/
import Derived.Test.YtcoddeemfdnjpaaDoorBaseP
import Derived.Test.YtcoddeemfdnjpaaDoorPrepRest
namespace Go.Proofs.YtcoddeemfdnjpaaDoor.lawPrepBlanks
open Go.ChangeShapes Go.WideShapes Go.ChangeAt Go.RowKit Go.ChangeMaps

set_option maxRecDepth 100000 in
theorem contract (H : Type) (enc : TypeId × Value → H) (W : World) (base : Nat) (args : Array Value) (ds gs : List (DataW H)) (before : List MemPlace)
    (hval : ∀ (j : Nat) t v, Tryd.f9.params[j]? = some t → args[j]? = some v → Value.okWide Tryd.prog W .any base t v)
    (_hsz : (DataW.weightsEach Tryd.prog (Tryd.f9.params.toList ++ Rows.prepBlanksSpec.plain.varTypes Tryd.prog) (ds ++ gs)).all (· ≤ reachBytes) = true)
    (hW : DataW.Whole enc Tryd.prog Tryd.f9.params.toList Rows.prepBlanksSpec.vars false W args.toList ds gs before) (_hL : laidMetH Tryd.prog Rows.prepBlanksRow.laid W) (_hSh : W.ShapedOpen Tryd.prog) :
    Calls Tryd.prog 9 args W fun e W' => ∃ v, e = .returned v ∧ Rows.prepBlanksSpec.post enc Tryd.prog Tryd.f9 false true false false W args v W' := by
  have hW' := hW
  obtain ⟨p, q, hA0, hV, rfl, hfz, hnd⟩ := hW
  have hA : DataW.TrodAll enc Tryd.prog W 0 (fun _ => true) true Tryd.f9.params.toList args.toList ds p := hA0
  rw [Tryd.params9] at hA hval
  have hlt := DataW.TrodAll.lt hA
  obtain ⟨v0, vs0, d0, ds0, p0, q0, hargs, rfl, rfl, h0, r0⟩ := trodAll_cons hA
  obtain ⟨v1, vs1, d1, ds1, p1, q1, rfl, rfl, rfl, h1, r1⟩ := trodAll_cons r0
  obtain ⟨v2, vs2, d2, ds2, p2, q2, rfl, rfl, rfl, h2, r2⟩ := trodAll_cons r1
  obtain ⟨rfl, rfl, rfl⟩ := trodAll_nil r2
  obtain rfl : args = #[v0, v1, v2] := by cases args; simp_all
  obtain ⟨rfl, rfl⟩ := trodVars_none hV
  obtain ⟨x0, rfl, rfl, rfl, w0⟩ := open_string Tryd.underlying9 (hval 0 9 v0 (by simp) (by simp)) h0
  have z0 : x0.size ≤ 140737488351232 := by
    have hz := sized_string _hsz (j := 0) (t := 9) (bytes := x0.data.toList) (by kernel_rfl) rfl
    simpa [reachBytes] using hz
  obtain ⟨x1, rfl, rfl, rfl, w1⟩ := open_string Tryd.underlying9 (hval 1 9 v1 (by simp) (by simp)) h1
  have z1 : x1.size ≤ 140737488351232 := by
    have hz := sized_string _hsz (j := 1) (t := 9) (bytes := x1.data.toList) (by kernel_rfl) rfl
    simpa [reachBytes] using hz
  obtain ⟨x2, rfl, rfl, rfl, w2⟩ := open_int Tryd.underlying3 (hval 2 3 v2 (by simp) (by simp)) h2
  have bd2 := bounds_i64 w2
  clear hA0 hlt
  simp only [List.append_nil] at hW'
  have walk : Calls Tryd.prog 9 #[.string x0, .string x1, .int .i64 x2] W fun e w' => e = .returned (.bool true) ∧ Below W.heap.size W w' := by
    obtain ⟨m, hm⟩ := maxLen_cell _hSh
    exact PrepPlain.prepBlanks_walk x0 x1 x2 m W hm
  refine walk.mono fun e W' ⟨he, hg⟩ => ?_
  subst he
  exact ⟨_, rfl, post_below (pa := []) (pv := []) hW' (fun _ _ _ => trodAll_cons_mk (shut_bool Tryd.underlying4 _) trodAll_mk0) (trodAll_cons_mk (shut_string Tryd.underlying9 w0) (trodAll_cons_mk (shut_string Tryd.underlying9 w1) (trodAll_cons_mk (shut_int Tryd.underlying3 w2) trodAll_mk0))) rfl rfl hg⟩

theorem laid_met (os : Os) : laidMet Tryd.prog Rows.prepBlanksRow.laid ((laidWorldP os).forCall (fun _ _ => 0) ⟨#[], #[Value.string ⟨#[]⟩, Value.string ⟨#[]⟩, Value.int .i64 0], []⟩).memory :=
  laidMet_of_run' 8 (by kernel_rfl) (by kernel_rfl)
theorem reads (os : Os) {H : Type} (enc : TypeId × Value → H) : ∃ places, DataW.whole enc Tryd.prog ((laidWorldP os).forCall (fun _ _ => 0) ⟨#[], #[Value.string ⟨#[]⟩, Value.string ⟨#[]⟩, Value.int .i64 0], []⟩).memory Tryd.f9.params.toList Rows.prepBlanksSpec.vars false (#[Value.string ⟨#[]⟩, Value.string ⟨#[]⟩, Value.int .i64 0] : Array Value).toList 8 = some ([.lit (.string []), .lit (.string []), .lit (.int .i64 0)], [], places) :=
  ⟨[], by kernel_rfl⟩

set_option maxRecDepth 100000 in
theorem lifted (os : Os) (started : os.Started) (H : Type) (enc : TypeId × Value → H) (F : Stop.Interp) :
    ReturnsInHanded {} Tryd.checked os 9 .any ((OpenSpec.ofChange Rows.prepBlanksSpec).preRow enc Tryd.prog Tryd.f9 Rows.prepBlanksRow.domain false Rows.prepBlanksRow.laid) (((OpenSpec.ofChange Rows.prepBlanksSpec).at F).post enc Tryd.prog Tryd.f9 false true false false) := by
  obtain ⟨places, hx⟩ := reads os enc
  refine returnsInHanded_of_row (C := Tryd.checked) (s := OpenSpec.ofChange Rows.prepBlanksSpec) own started (by kernel_rfl) Tryd.func9
    (witness_row_at (enc := enc) (C := Tryd.checked) false (laidWorldP os) #[Value.string ⟨#[]⟩, Value.string ⟨#[]⟩, Value.int .i64 0] rfl (by kernel_rfl) (by kernel_rfl) (by kernel_rfl)
      (OpenSpec.preRow_of_cond 8 hx (by kernel_rfl) (fun k hk => by cases hk) (by kernel_rfl) (laid_met os))) ?_
  intro W base args ds gs before hval hW _ _ _hsz _hL _hSh _
  exact contract H enc W base args ds gs before hval _hsz hW _hL _hSh

set_option maxHeartbeats 4000000 in
theorem closed : joinedFacts Tryd.prog 9 Tryd.f9 Rows.prepBlanksSpec Rows.prepBlanksRow = true := by
  unfold joinedFacts
  repeat' (with_reducible refine and_intro ?_ ?_)
  all_goals first
    | (with_reducible exact laidOut)
    | (with_reducible exact mapsAre)
    | (with_reducible exact stopsHeard)
    | (with_reducible exact mayEnter)
    | ((with_reducible refine liftsAre' _ ?_); rfl)
    | ((with_reducible refine makeIs' _ ?_); rfl)
    | (as_aux_lemma => kernel_rfl)
theorem closed1 : joinedFacts Tryd.pinned.checked.prog 9 Tryd.f9 (OpenSpec.ofChange Rows.prepBlanksSpec).bare Rows.prepBlanksRow = true := by
  rw [progIs]
  exact closed
theorem named : Tryd.prog.funcNamed "rollbook/rollbooklaw13.PrepBlanks" = some 9 := by kernel_rfl
theorem named1 : Tryd.pinned.checked.prog.funcNamed Rows.prepBlanksRow.func = some 9 := by
  rw [progIs]
  exact named
theorem said : Rows.PrepBlanksSaid :=
  OpenClaim.holds_of_cond 9 Tryd.f9 rfl rfl rfl rfl rfl rfl rfl ⟨rfl, rfl, rfl, rfl, rfl⟩ rfl rfl rfl rfl rfl named1 Tryd.func9 closed1
    (of_decide_eq_true (by kernel_rfl)) (by unfold Func.isWrapper; first | (rw [if_pos (by decide +kernel)]; kernel_rfl) | (rw [if_neg (by decide +kernel)]; exact ⟨rfl, rfl⟩))
    (fun os started H enc _ F => by rw [OpenClaim.pre_eq_preRow]; exact lifted os started H enc F)

theorem plain (f : FuncId) (fn : Func) (hf : Tryd.pinned.checked.prog.funcNamed "rollbook/rollbooklaw13.PrepBlanks" = some f) (hfn : Tryd.pinned.checked.prog.funcs[f]? = some fn) :
    false = Tryd.pinned.checked.prog.looks [] ∧ ∀ (j : Nat) t, fn.params[j]? = some t → Tryd.pinned.checked.prog.wantsStandIn t = false := by
  obtain rfl : f = 9 := Option.some.inj (named.symm.trans hf) |>.symm
  obtain rfl : fn = Tryd.f9 := (Option.some.inj (Tryd.func9.symm.trans hfn)).symm
  refine ⟨noLooks, fun j t ht => ?_⟩
  rw [Tryd.params9] at ht
  have hm := Array.mem_of_getElem? ht
  simp only [List.mem_toArray, List.mem_cons, List.not_mem_nil, or_false] at hm
  rcases hm with rfl | rfl | rfl
  · exact (show Tryd.prog.wantsStandIn 9 = false by kernel_rfl)
  · exact (show Tryd.prog.wantsStandIn 9 = false by kernel_rfl)
  · exact (show Tryd.prog.wantsStandIn 3 = false by kernel_rfl)

/-- THE CARD. -/
theorem card : Rows.PrepBlanksCardSaid :=
  Claim7.holds_tied_plain_at .later [] _ _ _ _ said (fun _ h => by cases h) (by kernel_rfl) (fun _ h => by cases h) prepBlanks_row_tie rfl ⟨rfl, rfl⟩ harnessMain rfl plain (by kernel_rfl)
end Go.Proofs.YtcoddeemfdnjpaaDoor.lawPrepBlanks
