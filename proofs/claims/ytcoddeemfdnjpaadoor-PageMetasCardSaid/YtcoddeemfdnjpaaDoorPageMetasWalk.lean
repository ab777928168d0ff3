/- The walk of the law PageMetas. -/
import Derived.Test.YtcoddeemfdnjpaaDoorRefMetas
import Derived.Test.YtcoddeemfdnjpaaDoorPagesWalk
import Derived.Deep.RegionHeld3
namespace Go.Proofs.YtcoddeemfdnjpaaDoor.PagePlain
open Go.RowKit CrcPlain NumPlain FieldPlain
open Go.Proofs.YtcoddeemfdnjpaaDoorW.PrintMore
open Go.Proofs.YtcoddeemfdnjpaaDoorW.PrintWords hiding nums nums_length nums_append
theorem packM_cases (m : Mt) : (∃ x, packM m = (x, 0) ∧ unpackM x = (m, 0) ∧ x.size = 128) ∨ packM m = (⟨#[]⟩, 4) := by
  by_cases h : rightM m = true
  · have e : packM m = (metaB m.txn.toNat m.root.toNat m.free.toNat m.pages.toNat m.limit.toNat, 0) := if_pos h
    exact .inl ⟨_, e, unpack_packM _ _ e, metaB_size _ _ _ _ _⟩
  · exact .inr (if_neg h)
/-- what the three metas' blocks hold, and that nothing that was there has changed -/
def HoldsM (w0 : World) (g h k : Nat) (a b c : Array Value) (v : World) : Prop := Below w0.heap.size w0 v ∧ v.heap[g]? = some (.cells a 46 (0, 0)) ∧ v.heap[h]? = some (.cells b 46 (0, 0)) ∧ v.heap[k]? = some (.cells c 46 (0, 0))
theorem HoldsM.below {w0 v v' : World} {g h k : Nat} {a b c : Array Value} (H : HoldsM w0 g h k a b c v) (hb : Below v.heap.size v v') : HoldsM w0 g h k a b c v' :=
  ⟨H.1.trans (hb.mono H.1.size), blk_below H.2.1 hb, blk_below H.2.2.1 hb, blk_below H.2.2.2 hb⟩
theorem HoldsM.cells {w0 v : World} {g h k : Nat} {a0 a1 a2 a3 a4 b0 b1 b2 b3 b4 c0 c1 c2 c3 c4 : Value} (H : HoldsM w0 g h k #[a0, a1, a2, a3, a4] #[b0, b1, b2, b3, b4] #[c0, c1, c2, c3, c4] v) :
    v.cell? ⟨g, 0, none⟩ = some a0 ∧ v.cell? ⟨g, 1, none⟩ = some a1 ∧ v.cell? ⟨g, 2, none⟩ = some a2 ∧ v.cell? ⟨g, 3, none⟩ = some a3 ∧ v.cell? ⟨g, 4, none⟩ = some a4 ∧
    v.cell? ⟨h, 0, none⟩ = some b0 ∧ v.cell? ⟨h, 1, none⟩ = some b1 ∧ v.cell? ⟨h, 2, none⟩ = some b2 ∧ v.cell? ⟨h, 3, none⟩ = some b3 ∧ v.cell? ⟨h, 4, none⟩ = some b4 ∧
    v.cell? ⟨k, 0, none⟩ = some c0 ∧ v.cell? ⟨k, 1, none⟩ = some c1 ∧ v.cell? ⟨k, 2, none⟩ = some c2 ∧ v.cell? ⟨k, 3, none⟩ = some c3 ∧ v.cell? ⟨k, 4, none⟩ = some c4 ∧
    Hid (HoldsM w0 g h k #[a0, a1, a2, a3, a4] #[b0, b1, b2, b3, b4] #[c0, c1, c2, c3, c4] v) :=
  ⟨blk_cell H.2.1 0, blk_cell H.2.1 1, blk_cell H.2.1 2, blk_cell H.2.1 3, blk_cell H.2.1 4, blk_cell H.2.2.1 0, blk_cell H.2.2.1 1, blk_cell H.2.2.1 2, blk_cell H.2.2.1 3, blk_cell H.2.2.1 4, blk_cell H.2.2.2 0, blk_cell H.2.2.2 1, blk_cell H.2.2.2 2, blk_cell H.2.2.2 3, blk_cell H.2.2.2 4, H⟩
theorem HoldsM.drew {w0 v : World} {g h k : Nat} {a b c : Array Value} (H : HoldsM w0 g h k a b c v) : HoldsM w0 g h k a b c v.drew := H.below (Below.refl _ _).drew
set_option maxHeartbeats 4000000 in
set_option maxRecDepth 100000 in
theorem pageMetas_walk (t r f p l : Int) (s : ByteArray) (w : World) (hT : HasTab w) : Calls Tryd.prog 10 #[.agg #[.int .i64 t, .int .i64 r, .int .i64 f, .int .i64 p, .int .i64 l], .string s] w fun e w' => e = .returned (.bool true) ∧ Below w.heap.size w w' := by
  have hT' := Lib.hid hT
  have hu46 := Tryd.underlying46
  clear hT
  have hB0 := Lib.hid (blk_new w (Obj.cells #[Value.int .i64 t, .int .i64 r, .int .i64 f, .int .i64 p, .int .i64 l] 46))
  have hb0 := Lib.hid ((Below.refl w.heap.size w).alloc (Nat.le_refl _) (Obj.cells #[Value.int .i64 t, .int .i64 r, .int .i64 f, .int .i64 p, .int .i64 l] 46))
  by_cases hs : s.size ≤ 2000
  · have hun : Hid (∀ v : World, HasTab v → Calls Tryd.prog 37 #[.string s] v fun e w' => e = .returned (.tuple #[mtV (unpackM s).1, .int .i64 (unpackM s).2]) ∧ Below v.heap.size v w') := fun v hv => unpackMeta_any s v hv hs
    have hru : Hid (∀ v : World, Calls Tryd.prog 38 #[.string s] v fun e w' => e = .returned (.tuple #[mtV (unpackM s).1, .int .i64 (unpackM s).2]) ∧ Below v.heap.size v w') := fun v => refUnpackMeta_any s v hs
    have hpk : Hid (∀ v : World, HasTab v → Calls Tryd.prog 39 #[.agg #[.int .i64 t, .int .i64 r, .int .i64 f, .int .i64 p, .int .i64 l]] v fun e w' => e = .returned (.tuple #[.string (packM ⟨t, r, f, p, l⟩).1, .int .i64 (packM ⟨t, r, f, p, l⟩).2]) ∧ Below v.heap.size v w') := fun v hv => packMeta_any t r f p l v hv
    have hrp : Hid (∀ v : World, Calls Tryd.prog 40 #[.agg #[.int .i64 t, .int .i64 r, .int .i64 f, .int .i64 p, .int .i64 l]] v fun e w' => e = .returned (.tuple #[.string (packM ⟨t, r, f, p, l⟩).1, .int .i64 (packM ⟨t, r, f, p, l⟩).2]) ∧ Below v.heap.size v w') := fun v => refPackMeta_any t r f p l v
    have hri : Hid (∀ v : World, Calls Tryd.prog 41 #[.agg #[.int .i64 t, .int .i64 r, .int .i64 f, .int .i64 p, .int .i64 l]] v fun e w' => e = .returned (.bool (rightM ⟨t, r, f, p, l⟩)) ∧ Below v.heap.size v w') := fun v => rightMeta_any t r f p l v
    have hrr : Hid (∀ v : World, Calls Tryd.prog 42 #[.agg #[.int .i64 t, .int .i64 r, .int .i64 f, .int .i64 p, .int .i64 l]] v fun e w' => e = .returned (.bool (rightM ⟨t, r, f, p, l⟩)) ∧ Below v.heap.size v w') := fun v => refRightMeta_any t r f p l v
    have hun2 : Hid (∀ (x : ByteArray) (v : World), HasTab v → x.size = 128 → unpackM x = (⟨t, r, f, p, l⟩, 0) → Calls Tryd.prog 37 #[.string x] v fun e w' => e = .returned (.tuple #[.agg #[.int .i64 t, .int .i64 r, .int .i64 f, .int .i64 p, .int .i64 l], .int .i64 0]) ∧ Below v.heap.size v w') := by
      intro x v hv hx hu
      have h := unpackMeta_any x v hv (by omega)
      rw [hu] at h
      exact h
    have hcs := packM_cases ⟨t, r, f, p, l⟩
    obtain ⟨⟨x, e⟩, hz⟩ : ∃ z, packM ⟨t, r, f, p, l⟩ = z := ⟨_, rfl⟩
    rw [hz] at hpk hrp hcs
    obtain ⟨R, hR⟩ : ∃ R, rightM ⟨t, r, f, p, l⟩ = R := ⟨_, rfl⟩
    rw [hR] at hri hrr
    obtain ⟨⟨⟨pt, pr, pf, pp, pl⟩, pe⟩, hp⟩ : ∃ z, unpackM s = z := ⟨_, rfl⟩
    rw [hp] at hun hru
    unfold mtV at hun hru
    simp only at hun hru hpk hrp
    have hcs' := Lib.hid hcs
    clear hz hR hcs hp
    go_enter Tryd.func10, Tryd.ntmps10
    go_wp2_with fail
    refine (awake04 _ (hT'.out.below hb0.out hT'.out.pos)).mono ?_
    rintro e w2 ⟨rfl, hb2⟩
    have hb2' := Lib.hid (hb0.out.trans (hb2.mono hb0.out.size))
    have hB2 := Lib.hid (blk_below hB0.out hb2)
    clear hb2 hb0 hB0
    go_wp2_with fail
    refine (hun.out _ (hT'.out.below hb2'.out hT'.out.pos)).mono ?_
    rintro e w3 ⟨rfl, hb3⟩
    have hb3' := Lib.hid ((hb2'.out.trans (hb3.mono hb2'.out.size)).alloc (Below.size (hb2'.out.trans (hb3.mono hb2'.out.size))) (Obj.cells #[Value.int .i64 pt, .int .i64 pr, .int .i64 pf, .int .i64 pp, .int .i64 pl] 46))
    have hB3 := Lib.hid (blk_alloc (blk_below hB2.out hb3) (Obj.cells #[Value.int .i64 pt, .int .i64 pr, .int .i64 pf, .int .i64 pp, .int .i64 pl] 46))
    have hX3 := Lib.hid (blk_new w3 (Obj.cells #[Value.int .i64 pt, .int .i64 pr, .int .i64 pf, .int .i64 pp, .int .i64 pl] 46))
    clear hb3 hb2' hB2
    go_wp2_with fail
    refine (hru.out _).mono ?_
    rintro e w4 ⟨rfl, hb4⟩
    have hb4' := Lib.hid ((hb3'.out.trans (hb4.mono hb3'.out.size)).alloc (Below.size (hb3'.out.trans (hb4.mono hb3'.out.size))) (Obj.cells #[Value.int .i64 pt, .int .i64 pr, .int .i64 pf, .int .i64 pp, .int .i64 pl] 46))
    have hB4 := Lib.hid (blk_alloc (blk_below hB3.out hb4) (Obj.cells #[Value.int .i64 pt, .int .i64 pr, .int .i64 pf, .int .i64 pp, .int .i64 pl] 46))
    have hX4 := Lib.hid (blk_alloc (blk_below hX3.out hb4) (Obj.cells #[Value.int .i64 pt, .int .i64 pr, .int .i64 pf, .int .i64 pp, .int .i64 pl] 46))
    have hY4 := Lib.hid (blk_new w4 (Obj.cells #[Value.int .i64 pt, .int .i64 pr, .int .i64 pf, .int .i64 pp, .int .i64 pl] 46))
    have hH4 : Hid (HoldsM w w.heap.size w3.heap.size w4.heap.size #[.int .i64 t, .int .i64 r, .int .i64 f, .int .i64 p, .int .i64 l] #[.int .i64 pt, .int .i64 pr, .int .i64 pf, .int .i64 pp, .int .i64 pl] #[.int .i64 pt, .int .i64 pr, .int .i64 pf, .int .i64 pp, .int .i64 pl] _) := ⟨hb4'.out, hB4.out, hX4.out, hY4.out⟩
    clear hb4 hb3' hX3 hb4' hB4 hX4 hY4 hB3
    obtain ⟨c0, c1, c2, c3, c4, -⟩ := hH4.out.cells
    go_wp2_with fail
    refine (hpk.out _ (hT'.out.below hH4.out.1 hT'.out.pos)).mono ?_
    clear c0 c1 c2 c3 c4
    rintro e w5 ⟨rfl, hb5⟩
    have hH5 := Lib.hid (hH4.out.below hb5)
    clear hb5 hH4
    obtain ⟨c0, c1, c2, c3, c4, -⟩ := hH5.out.cells
    go_wp2_with fail
    refine (hrp.out _).mono ?_
    clear c0 c1 c2 c3 c4
    rintro e w6 ⟨rfl, hb6⟩
    have hH6 := Lib.hid (hH5.out.below hb6)
    clear hb6 hH5
    obtain ⟨b, hb⟩ : ∃ b, b = w3.heap.size := ⟨_, rfl⟩
    obtain ⟨c, hc⟩ : ∃ c, c = w4.heap.size := ⟨_, rfl⟩
    rw [← hb, ← hc] at hH6 ⊢
    clear hb hc
    have hH6d := HoldsM.drew hH6.out
    obtain ⟨c0, c1, c2, c3, c4, x0, x1, x2, x3, x4, y0, y1, y2, y3, y4, -⟩ := hH6.out.cells
    have hri' : Hid (∀ v : World, HoldsM w w.heap.size b c #[.int .i64 t, .int .i64 r, .int .i64 f, .int .i64 p, .int .i64 l] #[.int .i64 pt, .int .i64 pr, .int .i64 pf, .int .i64 pp, .int .i64 pl] #[.int .i64 pt, .int .i64 pr, .int .i64 pf, .int .i64 pp, .int .i64 pl] v → Calls Tryd.prog 41 #[.agg #[.int .i64 t, .int .i64 r, .int .i64 f, .int .i64 p, .int .i64 l]] v fun e w' => e = .returned (.bool R) ∧ HoldsM w w.heap.size b c #[.int .i64 t, .int .i64 r, .int .i64 f, .int .i64 p, .int .i64 l] #[.int .i64 pt, .int .i64 pr, .int .i64 pf, .int .i64 pp, .int .i64 pl] #[.int .i64 pt, .int .i64 pr, .int .i64 pf, .int .i64 pp, .int .i64 pl] w') :=
      fun v hv => (hri.out v).mono fun _ _ ⟨h1, h2⟩ => ⟨h1, hv.below h2⟩
    have hrr' : Hid (∀ v : World, HoldsM w w.heap.size b c #[.int .i64 t, .int .i64 r, .int .i64 f, .int .i64 p, .int .i64 l] #[.int .i64 pt, .int .i64 pr, .int .i64 pf, .int .i64 pp, .int .i64 pl] #[.int .i64 pt, .int .i64 pr, .int .i64 pf, .int .i64 pp, .int .i64 pl] v → Calls Tryd.prog 42 #[.agg #[.int .i64 t, .int .i64 r, .int .i64 f, .int .i64 p, .int .i64 l]] v fun e w' => e = .returned (.bool R) ∧ HoldsM w w.heap.size b c #[.int .i64 t, .int .i64 r, .int .i64 f, .int .i64 p, .int .i64 l] #[.int .i64 pt, .int .i64 pr, .int .i64 pf, .int .i64 pp, .int .i64 pl] #[.int .i64 pt, .int .i64 pr, .int .i64 pf, .int .i64 pp, .int .i64 pl] w') :=
      fun v hv => (hrr.out v).mono fun _ _ ⟨h1, h2⟩ => ⟨h1, hv.below h2⟩
    clear hri hrr
    go_wp2_with fail
    go_region_held3 (fun v => v.cell? ⟨w.heap.size, 0, none⟩ = some (.int .i64 t) ∧ v.cell? ⟨w.heap.size, 1, none⟩ = some (.int .i64 r) ∧ v.cell? ⟨w.heap.size, 2, none⟩ = some (.int .i64 f) ∧ v.cell? ⟨w.heap.size, 3, none⟩ = some (.int .i64 p) ∧ v.cell? ⟨w.heap.size, 4, none⟩ = some (.int .i64 l) ∧
        v.cell? ⟨b, 0, none⟩ = some (.int .i64 pt) ∧ v.cell? ⟨b, 1, none⟩ = some (.int .i64 pr) ∧ v.cell? ⟨b, 2, none⟩ = some (.int .i64 pf) ∧ v.cell? ⟨b, 3, none⟩ = some (.int .i64 pp) ∧ v.cell? ⟨b, 4, none⟩ = some (.int .i64 pl) ∧
        v.cell? ⟨c, 0, none⟩ = some (.int .i64 pt) ∧ v.cell? ⟨c, 1, none⟩ = some (.int .i64 pr) ∧ v.cell? ⟨c, 2, none⟩ = some (.int .i64 pf) ∧ v.cell? ⟨c, 3, none⟩ = some (.int .i64 pp) ∧ v.cell? ⟨c, 4, none⟩ = some (.int .i64 pl) ∧
        Hid (HoldsM w w.heap.size b c #[.int .i64 t, .int .i64 r, .int .i64 f, .int .i64 p, .int .i64 l] #[.int .i64 pt, .int .i64 pr, .int .i64 pf, .int .i64 pp, .int .i64 pl] #[.int .i64 pt, .int .i64 pr, .int .i64 pf, .int .i64 pp, .int .i64 pl] v))
      (first | exact HoldsM.cells hH6d | exact HoldsM.cells (by assumption))
      (first
        | (go_at_call 41; refine (hri'.out _ ?_).mono ?_; (exact (‹_ ∧ _ ∧ _ ∧ _ ∧ _ ∧ _ ∧ _ ∧ _ ∧ _ ∧ _ ∧ _ ∧ _ ∧ _ ∧ _ ∧ _ ∧ Hid (HoldsM _ _ _ _ _ _ _ _)› : _ ∧ _ ∧ _ ∧ _ ∧ _ ∧ _ ∧ _ ∧ _ ∧ _ ∧ _ ∧ _ ∧ _ ∧ _ ∧ _ ∧ _ ∧ Hid (HoldsM _ _ _ _ _ _ _ _)).2.2.2.2.2.2.2.2.2.2.2.2.2.2.2.out); rintro e w' ⟨rfl, hHx⟩)
        | (go_at_call 42; refine (hrr'.out _ ?_).mono ?_; (exact (‹_ ∧ _ ∧ _ ∧ _ ∧ _ ∧ _ ∧ _ ∧ _ ∧ _ ∧ _ ∧ _ ∧ _ ∧ _ ∧ _ ∧ _ ∧ Hid (HoldsM _ _ _ _ _ _ _ _)› : _ ∧ _ ∧ _ ∧ _ ∧ _ ∧ _ ∧ _ ∧ _ ∧ _ ∧ _ ∧ _ ∧ _ ∧ _ ∧ _ ∧ _ ∧ Hid (HoldsM _ _ _ _ _ _ _ _)).2.2.2.2.2.2.2.2.2.2.2.2.2.2.2.out); rintro e w' ⟨rfl, hHx⟩))
    all_goals
      have hH7 := Lib.hid hHx
      clear c0 c1 c2 c3 c4 x0 x1 x2 x3 x4 y0 y1 y2 y3 y4 hH6d hHx
      rcases hcs'.out with ⟨y, hy, hu, hy5⟩ | hy
      · injection hy with hy1 hy2
        subst hy1 hy2
        have hu' := Lib.hid hu
        clear hu
        have hy6 : ((x.size : Int) == 128) = true := by rw [hy5]; rfl
        go_wp2_with fail
        refine (hun2.out _ _ (hT'.out.below hH7.out.1 hT'.out.pos) hy5 hu'.out).mono ?_
        rintro e w8 ⟨rfl, hb8⟩
        have hH8 := Lib.hid ((hH7.out.below hb8).below ((Below.refl _ _).alloc (Nat.le_refl _) (Obj.cells #[Value.int .i64 t, .int .i64 r, .int .i64 f, .int .i64 p, .int .i64 l] 46)))
        clear hb8 hy5
        obtain ⟨d0, d1, d2, d3, d4, -⟩ := hH8.out.cells
        go_wp2
        go_ret
        exact ⟨rfl, hH8.out.1⟩
      · injection hy with hy1 hy2
        subst hy1 hy2
        go_wp2
        go_ret
        exact ⟨rfl, hH7.out.1⟩
  · have hs2 : (2000 : Int) < (s.size : Int) := by omega
    go_enter Tryd.func10, Tryd.ntmps10
    go_wp2_with fail
    refine (awake04 _ (hT'.out.below hb0.out hT'.out.pos)).mono ?_
    rintro e w2 ⟨rfl, hb2⟩
    have hb2' := Lib.hid (hb0.out.trans (hb2.mono hb0.out.size))
    clear hb2
    go_wp2
    go_ret
    exact ⟨rfl, hb2'.out⟩
end Go.Proofs.YtcoddeemfdnjpaaDoor.PagePlain
