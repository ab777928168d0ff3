/- Bytes of a page, or of a meta, of which one to four neighbouring ones were turned (all of them the sum's, or none of them) are none's (PageTells): for every page, meta, place and turning; the table of sums holds what its text lays (tied). No further condition. -/
import Derived.Test.YtcoddeemfdnjpaaDoorBase
import Derived.Test.YtcoddeemfdnjpaaDoorPageTellsWalk
import Derived.Test.YtcoddeemfdnjpaaDoorOpenStruct
namespace Go.Proofs.YtcoddeemfdnjpaaDoor.lawPageTells
open Go.ChangeShapes Go.WideShapes Go.ChangeAt Go.RowKit Go.ChangeMaps

set_option maxRecDepth 100000 in
theorem contract (H : Type) (enc : TypeId × Value → H) (W : World) (base : Nat) (args : Array Value) (ds gs : List (DataW H)) (before : List MemPlace)
    (hval : ∀ (j : Nat) t v, Tryd.f12.params[j]? = some t → args[j]? = some v → Value.okWide Tryd.prog W .any base t v)
    (_hsz : (DataW.weightsEach Tryd.prog (Tryd.f12.params.toList ++ Rows.pageTellsSpec.plain.varTypes Tryd.prog) (ds ++ gs)).all (· ≤ reachBytes) = true)
    (hW : DataW.Whole enc Tryd.prog Tryd.f12.params.toList Rows.pageTellsSpec.vars false W args.toList ds gs before) (_hL : laidMetH Tryd.prog Rows.pageTellsRow.laid W) (_hSh : W.ShapedOpen Tryd.prog) :
    Calls Tryd.prog 12 args W fun e W' => ∃ v, e = .returned v ∧ Rows.pageTellsSpec.post enc Tryd.prog Tryd.f12 false true false false W args v W' := by
  have hW' := hW
  obtain ⟨p, q, hA0, hV, rfl, hfz, hnd⟩ := hW
  have hA : DataW.TrodAll enc Tryd.prog W 0 (fun _ => true) true Tryd.f12.params.toList args.toList ds p := hA0
  rw [Tryd.params12] at hA hval
  have hlt := DataW.TrodAll.lt hA
  obtain ⟨v0, vs0, d0, ds0, p0, q0, hargs, rfl, rfl, h0, r0⟩ := trodAll_cons hA
  obtain ⟨v1, vs1, d1, ds1, p1, q1, rfl, rfl, rfl, h1, r1⟩ := trodAll_cons r0
  obtain ⟨v2, vs2, d2, ds2, p2, q2, rfl, rfl, rfl, h2, r2⟩ := trodAll_cons r1
  obtain ⟨v3, vs3, d3, ds3, p3, q3, rfl, rfl, rfl, h3, r3⟩ := trodAll_cons r2
  obtain ⟨rfl, rfl, rfl⟩ := trodAll_nil r3
  obtain rfl : args = #[v0, v1, v2, v3] := by cases args; simp_all
  obtain ⟨rfl, rfl⟩ := trodVars_none hV
  have k0 := h0
  obtain ⟨x0a, x0b, x0c, x0d, rfl, rfl⟩ := open_page (hval 0 31 v0 (by simp) (by simp)) h0
  have k1 := h1
  obtain ⟨x1a, x1b, x1c, x1d, x1e, rfl, rfl⟩ := open_meta (hval 1 46 v1 (by simp) (by simp)) h1
  obtain ⟨x2, rfl, rfl, rfl, w2⟩ := open_int Tryd.underlying3 (hval 2 3 v2 (by simp) (by simp)) h2
  have bd2 := bounds_i64 w2
  obtain ⟨x3, rfl, rfl, rfl, w3⟩ := open_int Tryd.underlying22 (hval 3 22 v3 (by simp) (by simp)) h3
  have bd3 := bounds_u32 w3
  clear hA0
  simp only [List.append_nil] at hW'
  have walk : Calls Tryd.prog 12 #[.agg #[.int .i64 x0a, .int .i64 x0b, .int .i64 x0c, .string x0d], .agg #[.int .i64 x1a, .int .i64 x1b, .int .i64 x1c, .int .i64 x1d, .int .i64 x1e], .int .i64 x2, .int .u32 x3] W fun e w' => e = .returned (.bool true) ∧ Below W.heap.size W w' := by
    have hT := hasTab _hL
    obtain ⟨n, rfl⟩ := Int.eq_ofNat_of_zero_le bd3.1
    exact PagePlain.pageTells_walk x0a x0b x0c x0d x1a x1b x1c x1d x1e x2 n W hT (by omega)
  refine walk.mono fun e W' ⟨he, hg⟩ => ?_
  subst he
  exact ⟨_, rfl, post_below (pa := _) (pv := []) hW' (fun _ _ _ => trodAll_cons_mk (shut_bool Tryd.underlying4 _) trodAll_mk0) (trodAll_cons_mk (Below.trod laidOut (by kernel_rfl) (of_decide_eq_true (by kernel_rfl)) k0 hg (fun x hx => hlt x (by simp [hx]))) (trodAll_cons_mk (Below.trod laidOut (by kernel_rfl) (of_decide_eq_true (by kernel_rfl)) k1 hg (fun x hx => hlt x (by simp [hx]))) (trodAll_cons_mk (shut_int Tryd.underlying3 w2) (trodAll_cons_mk (shut_int Tryd.underlying22 w3) trodAll_mk0)))) rfl (by simp) hg⟩

theorem laid_met (os : Os) : laidMet Tryd.prog Rows.pageTellsRow.laid ((laidWorld os).forCall (fun _ _ => 0) ⟨#[], #[Value.agg #[.int .i64 0, .int .i64 0, .int .i64 0, .string ⟨#[]⟩], Value.agg #[.int .i64 0, .int .i64 0, .int .i64 0, .int .i64 0, .int .i64 0], Value.int .i64 0, Value.int .u32 0], []⟩).memory :=
  laidMet_of_run' 8 (by kernel_rfl) (by kernel_rfl)
theorem reads (os : Os) {H : Type} (enc : TypeId × Value → H) : ∃ places, DataW.whole enc Tryd.prog ((laidWorld os).forCall (fun _ _ => 0) ⟨#[], #[Value.agg #[.int .i64 0, .int .i64 0, .int .i64 0, .string ⟨#[]⟩], Value.agg #[.int .i64 0, .int .i64 0, .int .i64 0, .int .i64 0, .int .i64 0], Value.int .i64 0, Value.int .u32 0], []⟩).memory Tryd.f12.params.toList Rows.pageTellsSpec.vars false (#[Value.agg #[.int .i64 0, .int .i64 0, .int .i64 0, .string ⟨#[]⟩], Value.agg #[.int .i64 0, .int .i64 0, .int .i64 0, .int .i64 0, .int .i64 0], Value.int .i64 0, Value.int .u32 0] : Array Value).toList 8 = some ([.agg [.lit (.int .i64 0), .lit (.int .i64 0), .lit (.int .i64 0), .lit (.string [])], .agg [.lit (.int .i64 0), .lit (.int .i64 0), .lit (.int .i64 0), .lit (.int .i64 0), .lit (.int .i64 0)], .lit (.int .i64 0), .lit (.int .u32 0)], [], places) :=
  ⟨[], by kernel_rfl⟩

set_option maxRecDepth 100000 in
theorem lifted (os : Os) (started : os.Started) (H : Type) (enc : TypeId × Value → H) (F : Stop.Interp) :
    ReturnsInHanded {} Tryd.checked os 12 .any ((OpenSpec.ofChange Rows.pageTellsSpec).preRow enc Tryd.prog Tryd.f12 Rows.pageTellsRow.domain false Rows.pageTellsRow.laid) (((OpenSpec.ofChange Rows.pageTellsSpec).at F).post enc Tryd.prog Tryd.f12 false true false false) := by
  obtain ⟨places, hx⟩ := reads os enc
  refine returnsInHanded_of_row (C := Tryd.checked) (s := OpenSpec.ofChange Rows.pageTellsSpec) own started (by kernel_rfl) Tryd.func12
    (witness_row_at (enc := enc) (C := Tryd.checked) false (laidWorld os) #[Value.agg #[.int .i64 0, .int .i64 0, .int .i64 0, .string ⟨#[]⟩], Value.agg #[.int .i64 0, .int .i64 0, .int .i64 0, .int .i64 0, .int .i64 0], Value.int .i64 0, Value.int .u32 0] rfl (by kernel_rfl) (by kernel_rfl) (by kernel_rfl)
      (OpenSpec.preRow_of_cond 8 hx (by kernel_rfl) (fun k hk => by cases hk) (by kernel_rfl) (laid_met os))) ?_
  intro W base args ds gs before hval hW _ _ _hsz _hL _hSh _
  exact contract H enc W base args ds gs before hval _hsz hW _hL _hSh

set_option maxHeartbeats 4000000 in
theorem closed : joinedFacts Tryd.prog 12 Tryd.f12 Rows.pageTellsSpec Rows.pageTellsRow = true := by
  unfold joinedFacts
  repeat' (with_reducible refine and_intro ?_ ?_)
  all_goals first
    | (with_reducible exact laidOut)
    | (with_reducible exact mapsAre)
    | (with_reducible exact stopsHeard)
    | (with_reducible exact mayEnter)
    | ((with_reducible refine liftsAre' _ ?_); rfl)
    | ((with_reducible refine makeIs' _ ?_); rfl)
    | (as_aux_lemma => kernel_rfl)
theorem closed1 : joinedFacts Tryd.pinned.checked.prog 12 Tryd.f12 (OpenSpec.ofChange Rows.pageTellsSpec).bare Rows.pageTellsRow = true := by
  rw [progIs]
  exact closed
theorem named : Tryd.prog.funcNamed "rollbook/rollbooklaw04.PageTells" = some 12 := by kernel_rfl
theorem named1 : Tryd.pinned.checked.prog.funcNamed Rows.pageTellsRow.func = some 12 := by
  rw [progIs]
  exact named
theorem said : Rows.PageTellsSaid :=
  OpenClaim.holds_of_cond 12 Tryd.f12 rfl rfl rfl rfl rfl rfl rfl ⟨rfl, rfl, rfl, rfl, rfl⟩ rfl rfl rfl rfl rfl named1 Tryd.func12 closed1
    (of_decide_eq_true (by kernel_rfl)) (by unfold Func.isWrapper; first | (rw [if_pos (by decide +kernel)]; kernel_rfl) | (rw [if_neg (by decide +kernel)]; exact ⟨rfl, rfl⟩))
    (fun os started H enc _ F => by rw [OpenClaim.pre_eq_preRow]; exact lifted os started H enc F)

theorem plain (f : FuncId) (fn : Func) (hf : Tryd.pinned.checked.prog.funcNamed "rollbook/rollbooklaw04.PageTells" = some f) (hfn : Tryd.pinned.checked.prog.funcs[f]? = some fn) :
    false = Tryd.pinned.checked.prog.looks [] ∧ ∀ (j : Nat) t, fn.params[j]? = some t → Tryd.pinned.checked.prog.wantsStandIn t = false := by
  obtain rfl : f = 12 := Option.some.inj (named.symm.trans hf) |>.symm
  obtain rfl : fn = Tryd.f12 := (Option.some.inj (Tryd.func12.symm.trans hfn)).symm
  refine ⟨noLooks, fun j t ht => ?_⟩
  rw [Tryd.params12] at ht
  have hm := Array.mem_of_getElem? ht
  simp only [List.mem_toArray, List.mem_cons, List.not_mem_nil, or_false] at hm
  rcases hm with rfl | rfl | rfl | rfl
  · exact (show Tryd.prog.wantsStandIn 31 = false by kernel_rfl)
  · exact (show Tryd.prog.wantsStandIn 46 = false by kernel_rfl)
  · exact (show Tryd.prog.wantsStandIn 3 = false by kernel_rfl)
  · exact (show Tryd.prog.wantsStandIn 22 = false by kernel_rfl)

/-- THE CARD. -/
theorem card : Rows.PageTellsCardSaid :=
  Claim7.holds_tied_plain_at .later [] _ _ _ _ said (fun _ h => by cases h) (by kernel_rfl) (fun _ h => by cases h) pageTells_row_tie rfl ⟨rfl, rfl⟩ harnessMain rfl plain (by kernel_rfl)
end Go.Proofs.YtcoddeemfdnjpaaDoor.lawPageTells
