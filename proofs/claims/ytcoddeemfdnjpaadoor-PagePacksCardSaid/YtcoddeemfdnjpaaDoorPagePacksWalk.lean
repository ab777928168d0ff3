/- The walk of the law PagePacks. -/
import Derived.Test.YtcoddeemfdnjpaaDoorPagesWalk
import Derived.Deep.RegionHeld3
namespace Go.Proofs.YtcoddeemfdnjpaaDoor.PagePlain
open Go.RowKit CrcPlain NumPlain FieldPlain
open Go.Proofs.YtcoddeemfdnjpaaDoorW.PrintMore
open Go.Proofs.YtcoddeemfdnjpaaDoorW.PrintWords hiding nums nums_length nums_append
theorem refRight_any (k no txn : Int) (body : ByteArray) (w : World) :
    Calls Tryd.prog 30 #[.agg #[.int .i64 k, .int .i64 no, .int .i64 txn, .string body]] w fun e w' => e = .returned (.bool (rightF k no txn body)) ∧ Below w.heap.size w w' :=
  Fn.rollbookref04_Right.calls k no txn body _ w (refRight_f k no txn body)
/-- what the page's block holds, and that nothing that was there has changed -/
def HoldsP (w0 : World) (g : Nat) (k no txn : Int) (body : ByteArray) (v : World) : Prop := Below w0.heap.size w0 v ∧ v.heap[g]? = some (.cells #[.int .i64 k, .int .i64 no, .int .i64 txn, .string body] 31 (0, 0))
theorem HoldsP.below {w0 v v' : World} {g : Nat} {k no txn : Int} {body : ByteArray} (h : HoldsP w0 g k no txn body v) (hb : Below v.heap.size v v') : HoldsP w0 g k no txn body v' :=
  ⟨h.1.trans (hb.mono h.1.size), blk_below h.2 hb⟩
theorem HoldsP.cells {w0 v : World} {g : Nat} {k no txn : Int} {body : ByteArray} (h : HoldsP w0 g k no txn body v) :
    v.cell? ⟨g, 0, none⟩ = some (.int .i64 k) ∧ v.cell? ⟨g, 1, none⟩ = some (.int .i64 no) ∧ v.cell? ⟨g, 2, none⟩ = some (.int .i64 txn) ∧ v.cell? ⟨g, 3, none⟩ = some (.string body) ∧ Hid (HoldsP w0 g k no txn body v) :=
  ⟨blk_cell h.2 0, blk_cell h.2 1, blk_cell h.2 2, blk_cell h.2 3, h⟩
theorem HoldsP.drew {w0 v : World} {g : Nat} {k no txn : Int} {body : ByteArray} (h : HoldsP w0 g k no txn body v) : HoldsP w0 g k no txn body v.drew := h.below (Below.refl _ _).drew
theorem packF_cases (k no txn : Int) (body : ByteArray) : (∃ x, packF k no txn body = (x, 0) ∧ unpackF x = (⟨k, no, txn, body⟩, 0) ∧ x.size = 512) ∨ packF k no txn body = (⟨#[]⟩, 4) := by
  by_cases h : rightF k no txn body = true
  · have e : packF k no txn body = (packB k.toNat no.toNat txn.toNat body, 0) := if_pos h
    refine .inl ⟨_, e, unpack_pack ⟨k, no, txn, body⟩ _ e, packB_size _ _ _ _ ((right_iff _ _ _ _).1 h).2.2.2.2.2.2⟩
  · exact .inr (if_neg h)
set_option maxHeartbeats 1000000 in
set_option maxRecDepth 100000 in
theorem pagePacks_walk (k no txn : Int) (body : ByteArray) (w : World) (hT : HasTab w) : Calls Tryd.prog 6 #[.agg #[.int .i64 k, .int .i64 no, .int .i64 txn, .string body]] w fun e w' => e = .returned (.bool true) ∧ Below w.heap.size w w' := by
  have hT' := Lib.hid hT
  have hu31 := Tryd.underlying31
  clear hT
  have hH0 : Hid (HoldsP w w.heap.size k no txn body (w.alloc (Obj.cells #[.int .i64 k, .int .i64 no, .int .i64 txn, .string body] 31))) := ⟨(Below.refl w.heap.size w).alloc (Nat.le_refl _) _, blk_new w _⟩
  have haw : Hid (∀ v : World, HoldsP w w.heap.size k no txn body v → Calls Tryd.prog 26 #[] v fun e w' => e = .returned (.bool true) ∧ HoldsP w w.heap.size k no txn body w') := by
    intro v hv
    exact (awake04 v (hT'.out.below hv.1 hT'.out.pos)).mono fun _ _ ⟨h1, h2⟩ => ⟨h1, hv.below h2⟩
  by_cases hs : body.size ≤ 2000
  · have hpk : Hid (∀ v : World, HoldsP w w.heap.size k no txn body v → Calls Tryd.prog 27 #[.agg #[.int .i64 k, .int .i64 no, .int .i64 txn, .string body]] v fun e w' => e = .returned (.tuple #[.string (packF k no txn body).1, .int .i64 (packF k no txn body).2]) ∧ HoldsP w w.heap.size k no txn body w') := by
      intro v hv
      exact (pack_any k no txn body v (hT'.out.below hv.1 hT'.out.pos) hs).mono fun _ _ ⟨h1, h2⟩ => ⟨h1, hv.below h2⟩
    have hrp : Hid (∀ v : World, HoldsP w w.heap.size k no txn body v → Calls Tryd.prog 28 #[.agg #[.int .i64 k, .int .i64 no, .int .i64 txn, .string body]] v fun e w' => e = .returned (.tuple #[.string (packF k no txn body).1, .int .i64 (packF k no txn body).2]) ∧ HoldsP w w.heap.size k no txn body w') := by
      intro v hv
      exact (refPack_any k no txn body v).mono fun _ _ ⟨h1, h2⟩ => ⟨h1, hv.below h2⟩
    have hri : Hid (∀ v : World, HoldsP w w.heap.size k no txn body v → Calls Tryd.prog 29 #[.agg #[.int .i64 k, .int .i64 no, .int .i64 txn, .string body]] v fun e w' => e = .returned (.bool (rightF k no txn body)) ∧ HoldsP w w.heap.size k no txn body w') := by
      intro v hv
      exact (right_any k no txn body v).mono fun _ _ ⟨h1, h2⟩ => ⟨h1, hv.below h2⟩
    have hrr : Hid (∀ v : World, HoldsP w w.heap.size k no txn body v → Calls Tryd.prog 30 #[.agg #[.int .i64 k, .int .i64 no, .int .i64 txn, .string body]] v fun e w' => e = .returned (.bool (rightF k no txn body)) ∧ HoldsP w w.heap.size k no txn body w') := by
      intro v hv
      exact (refRight_any k no txn body v).mono fun _ _ ⟨h1, h2⟩ => ⟨h1, hv.below h2⟩
    have hun : Hid (∀ (x : ByteArray) (v : World), x.size = 512 → unpackF x = (⟨k, no, txn, body⟩, 0) → HoldsP w w.heap.size k no txn body v → Calls Tryd.prog 31 #[.string x] v fun e w' => e = .returned (.tuple #[.agg #[.int .i64 k, .int .i64 no, .int .i64 txn, .string body], .int .i64 0]) ∧ HoldsP w w.heap.size k no txn body w') := by
      intro x v hx hu hv
      have h := unpack_any x v (hT'.out.below hv.1 hT'.out.pos) (by omega)
      rw [hu] at h
      exact h.mono fun _ _ ⟨h1, h2⟩ => ⟨h1, hv.below h2⟩
    have hcs := packF_cases k no txn body
    obtain ⟨⟨x, e⟩, hz⟩ : ∃ z, packF k no txn body = z := ⟨_, rfl⟩
    rw [hz] at hpk hrp hcs
    obtain ⟨R, hR⟩ : ∃ R, rightF k no txn body = R := ⟨_, rfl⟩
    rw [hR] at hri hrr
    clear hz hR
    have hcs' := Lib.hid hcs
    clear hcs
    go_enter Tryd.func6, Tryd.ntmps6
    go_wp2_with fail
    refine (haw.out _ hH0.out).mono ?_
    rintro e w2 ⟨rfl, hH2⟩
    obtain ⟨c0, c1, c2, c3, hH2'⟩ := hH2.cells
    clear hH2
    go_wp2_with fail
    refine (hpk.out _ hH2'.out).mono ?_
    clear c0 c1 c2 c3
    rintro e w3 ⟨rfl, hH3⟩
    obtain ⟨c0, c1, c2, c3, hH3'⟩ := hH3.cells
    clear hH3
    go_wp2_with fail
    refine (hrp.out _ hH3'.out).mono ?_
    clear c0 c1 c2 c3
    rintro e w4 ⟨rfl, hH4⟩
    obtain ⟨c0, c1, c2, c3, hH4'⟩ := hH4.cells
    clear hH4
    have hH4d := HoldsP.drew hH4'.out
    go_wp2_with fail
    go_region_held3 (fun v => v.cell? ⟨w.heap.size, 0, none⟩ = some (.int .i64 k) ∧ v.cell? ⟨w.heap.size, 1, none⟩ = some (.int .i64 no) ∧ v.cell? ⟨w.heap.size, 2, none⟩ = some (.int .i64 txn) ∧ v.cell? ⟨w.heap.size, 3, none⟩ = some (.string body) ∧ Hid (HoldsP w w.heap.size k no txn body v))
      (first | exact HoldsP.cells hH4d | exact HoldsP.cells (by assumption))
      (first
        | (go_at_call 29; refine (hri.out _ ?_).mono ?_; (exact (‹_ ∧ _ ∧ _ ∧ _ ∧ Hid (HoldsP _ _ _ _ _ _ _)› : _ ∧ _ ∧ _ ∧ _ ∧ Hid (HoldsP _ _ _ _ _ _ _)).2.2.2.2.out); rintro e w' ⟨rfl, hHx⟩)
        | (go_at_call 30; refine (hrr.out _ ?_).mono ?_; (exact (‹_ ∧ _ ∧ _ ∧ _ ∧ Hid (HoldsP _ _ _ _ _ _ _)› : _ ∧ _ ∧ _ ∧ _ ∧ Hid (HoldsP _ _ _ _ _ _ _)).2.2.2.2.out); rintro e w' ⟨rfl, hHx⟩))
    all_goals
      have hx5 := HoldsP.cells hHx
      obtain ⟨d0, d1, d2, d3, hH5'⟩ := hx5
      clear c0 c1 c2 c3 hH4d hHx
      rcases hcs'.out with ⟨y, hy, hu, hy5⟩ | hy
      · injection hy with hy1 hy2
        subst hy1 hy2
        have hu' := Lib.hid hu
        clear hu
        go_wp2_with fail
        refine (hun.out _ _ hy5 hu'.out hH5'.out).mono ?_
        clear d0 d1 d2 d3
        rintro e w6 ⟨rfl, hH6⟩
        have hH7 := Lib.hid (hH6.below ((Below.refl _ _).alloc (Nat.le_refl _) (Obj.cells #[.int .i64 k, .int .i64 no, .int .i64 txn, .string body] 31)))
        obtain ⟨d0, d1, d2, d3, -⟩ := hH7.out.cells
        go_wp2
        go_ret
        exact ⟨rfl, hH7.out.1⟩
      · injection hy with hy1 hy2
        subst hy1 hy2
        go_wp2
        go_ret
        exact ⟨rfl, hH5'.out.1⟩
  · have hs2 : (2000 : Int) < (body.size : Int) := by omega
    go_enter Tryd.func6, Tryd.ntmps6
    go_wp2_with fail
    refine (haw.out _ hH0.out).mono ?_
    rintro e w2 ⟨rfl, hH2⟩
    obtain ⟨c0, c1, c2, c3, hH2'⟩ := hH2.cells
    clear hH2
    go_wp2
    go_ret
    exact ⟨rfl, hH2'.out.1⟩
end Go.Proofs.YtcoddeemfdnjpaaDoor.PagePlain
