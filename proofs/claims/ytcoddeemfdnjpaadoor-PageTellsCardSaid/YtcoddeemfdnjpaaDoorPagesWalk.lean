/- The walks of the laws on pages: PageReads. -/
import Derived.Test.YtcoddeemfdnjpaaDoorRefPages
namespace Go.Proofs.YtcoddeemfdnjpaaDoor.PagePlain
open Go.RowKit CrcPlain NumPlain FieldPlain
open Go.Proofs.YtcoddeemfdnjpaaDoorW.PrintMore
open Go.Proofs.YtcoddeemfdnjpaaDoorW.PrintWords hiding nums nums_length nums_append
theorem awake_pack : packF 1 3 7 ⟨#[120]⟩ = (packB 1 3 7 ⟨#[120]⟩, 0) := rfl
theorem awake_head : (packB 1 3 7 ⟨#[120]⟩).extract 0 10 = ⟨#[82, 66, 1, 0, 0, 1, 0, 0, 0, 3]⟩ := by
  apply nums_inj
  have h := nums_ext (packB 1 3 7 ⟨#[120]⟩) 0 10
  rw [Nat.zero_add] at h
  rw [h, nums_packB]
  obtain ⟨r, hr⟩ : ∃ r, r = numL 8 7 ++ (numL 4 (sumB 1 3 7 ⟨#[120]⟩) ++ ([0, 0] ++ (nums ⟨#[120]⟩ ++ List.replicate (488 - (⟨#[120]⟩ : ByteArray).size) 0))) := ⟨_, rfl⟩
  rw [← hr]
  rfl
set_option maxHeartbeats 400000 in
set_option maxRecDepth 100000 in
theorem awake04 (w : World) (hT : HasTab w) : Calls Tryd.prog 26 #[] w fun e w' => e = .returned (.bool true) ∧ Below w.heap.size w w' := by
  have hp : Hid (∀ v : World, HasTab v → Calls Tryd.prog 27 #[.agg #[.int .i64 1, .int .i64 3, .int .i64 7, .string ⟨#[120]⟩]] v fun e w' => e = .returned (.tuple #[.string (packB 1 3 7 ⟨#[120]⟩), .int .i64 0]) ∧ Below v.heap.size v w') := by
    intro v hv
    have h := pack_any 1 3 7 ⟨#[120]⟩ v hv (by decide)
    rwa [awake_pack] at h
  have hsz : (packB 1 3 7 ⟨#[120]⟩).size = 512 := packB_size _ _ _ _ (by decide)
  have hhd := awake_head
  obtain ⟨x, hx⟩ : ∃ x, x = packB 1 3 7 ⟨#[120]⟩ := ⟨_, rfl⟩
  rw [← hx] at hp hsz hhd
  clear hx
  have hu31 := Tryd.underlying31
  have hT' := Lib.hid hT
  clear hT
  have hhd2 : ((x.extract 0 10).toList == (⟨#[82, 66, 1, 0, 0, 1, 0, 0, 0, 3]⟩ : ByteArray).toList) = true := by rw [hhd]; exact beq_self_eq_true _
  have hl : (10 : Int) ≤ (x.size : Int) := by omega
  go_enter Tryd.func26, Tryd.ntmps26
  go_wp2_with fail
  refine (hp.out _ hT'.out).mono ?_
  rintro e w2 ⟨rfl, hb2⟩
  go_wp2
  go_ret
  exact ⟨rfl, hb2⟩
set_option maxHeartbeats 800000 in
set_option maxRecDepth 100000 in
theorem pageReads_walk (s : ByteArray) (w : World) (hT : HasTab w) : Calls Tryd.prog 8 #[.string s] w fun e w' => e = .returned (.bool true) ∧ Below w.heap.size w w' := by
  have hT' := Lib.hid hT
  have hu31 := Tryd.underlying31
  clear hT
  by_cases hs : s.size ≤ 2000
  · have hun : Hid (∀ v : World, HasTab v → Calls Tryd.prog 31 #[.string s] v fun e w' => e = .returned (.tuple #[pgV (unpackF s).1, .int .i64 (unpackF s).2]) ∧ Below v.heap.size v w') := fun v hv => unpack_any s v hv hs
    have hru : Hid (∀ v : World, Calls Tryd.prog 35 #[.string s] v fun e w' => e = .returned (.tuple #[pgV (unpackF s).1, .int .i64 (unpackF s).2]) ∧ Below v.heap.size v w') := fun v => refUnpack_any s v hs
    obtain ⟨⟨⟨a, b, c, d⟩, er⟩, hz⟩ : ∃ z, unpackF s = z := ⟨_, rfl⟩
    rw [hz] at hun hru
    clear hz
    unfold pgV at hun hru
    simp only at hun hru
    go_enter Tryd.func8, Tryd.ntmps8
    go_wp2_with fail
    refine (awake04 _ hT'.out).mono ?_
    rintro e w2 ⟨rfl, hb2⟩
    have hb2' := Lib.hid hb2
    clear hb2
    go_wp2_with fail
    refine (hun.out _ (hT'.out.below hb2'.out hT'.out.pos)).mono ?_
    rintro e w3 ⟨rfl, hb3⟩
    have hb3' := Lib.hid (hb2'.out.trans (hb3.mono hb2'.out.size))
    clear hb3 hb2'
    go_wp2_with fail
    refine (hru.out _).mono ?_
    rintro e w4 ⟨rfl, hb4⟩
    have hbA := hb3'.out.alloc (Below.size hb3'.out) (Obj.cells #[.int .i64 a, .int .i64 b, .int .i64 c, .string d] 31)
    have hb4' := Lib.hid (hbA.trans (hb4.mono hbA.size))
    have hC := Lib.hid (blk_below (blk_new w3 (Obj.cells #[.int .i64 a, .int .i64 b, .int .i64 c, .string d] 31)) hb4)
    have hD := Lib.hid (blk_alloc hC.out (Obj.cells #[.int .i64 a, .int .i64 b, .int .i64 c, .string d] 31))
    have hE := Lib.hid (hb4'.out.alloc (Below.size hb4'.out) (Obj.cells #[.int .i64 a, .int .i64 b, .int .i64 c, .string d] 31))
    have hq0 := blk_cell hD.out 0
    have hq1 := blk_cell hD.out 1
    have hq2 := blk_cell hD.out 2
    have hq3 := blk_cell hD.out 3
    clear hb4 hbA
    go_wp2
    go_ret
    exact ⟨rfl, hE.out⟩
  · go_enter Tryd.func8, Tryd.ntmps8
    go_wp2_with fail
    refine (awake04 _ hT'.out).mono ?_
    rintro e w2 ⟨rfl, hb2⟩
    go_wp2
    go_ret
    exact ⟨rfl, hb2⟩
end Go.Proofs.YtcoddeemfdnjpaaDoor.PagePlain
