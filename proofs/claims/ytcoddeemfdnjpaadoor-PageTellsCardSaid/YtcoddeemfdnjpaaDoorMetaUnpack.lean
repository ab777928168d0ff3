/- The walk of page.UnpackMeta. -/
import Derived.Test.YtcoddeemfdnjpaaDoorMetaWalk
namespace Go.Proofs.YtcoddeemfdnjpaaDoor.PagePlain
open Go.RowKit CrcPlain NumPlain FieldPlain
open Go.Proofs.YtcoddeemfdnjpaaDoorW.PrintMore
open Go.Proofs.YtcoddeemfdnjpaaDoorW.PrintWords hiding nums nums_length nums_append
/-- a struct of five fields stored: what each step wants -/
theorem store5 {W : World} {g : Nat} {t : TypeId} {a0 a1 a2 a3 a4 : Value} (h : W.heap[g]? = some (.cells #[a0, a1, a2, a3, a4] t (0, 0))) (v0 v1 v2 v3 v4 : Value) :
    (W.cell? ⟨g, 0, none⟩ = some a0 ∧ W.frozen? ⟨g, 0, none⟩ = false) ∧
    ((W.setCell ⟨g, 0, none⟩ v0).cell? ⟨g, 1, none⟩ = some a1 ∧ (W.setCell ⟨g, 0, none⟩ v0).frozen? ⟨g, 1, none⟩ = false) ∧
    (((W.setCell ⟨g, 0, none⟩ v0).setCell ⟨g, 1, none⟩ v1).cell? ⟨g, 2, none⟩ = some a2 ∧ ((W.setCell ⟨g, 0, none⟩ v0).setCell ⟨g, 1, none⟩ v1).frozen? ⟨g, 2, none⟩ = false) ∧
    ((((W.setCell ⟨g, 0, none⟩ v0).setCell ⟨g, 1, none⟩ v1).setCell ⟨g, 2, none⟩ v2).cell? ⟨g, 3, none⟩ = some a3 ∧ (((W.setCell ⟨g, 0, none⟩ v0).setCell ⟨g, 1, none⟩ v1).setCell ⟨g, 2, none⟩ v2).frozen? ⟨g, 3, none⟩ = false) ∧
    (((((W.setCell ⟨g, 0, none⟩ v0).setCell ⟨g, 1, none⟩ v1).setCell ⟨g, 2, none⟩ v2).setCell ⟨g, 3, none⟩ v3).cell? ⟨g, 4, none⟩ = some a4 ∧ ((((W.setCell ⟨g, 0, none⟩ v0).setCell ⟨g, 1, none⟩ v1).setCell ⟨g, 2, none⟩ v2).setCell ⟨g, 3, none⟩ v3).frozen? ⟨g, 4, none⟩ = false) ∧
    Hid ((((((W.setCell ⟨g, 0, none⟩ v0).setCell ⟨g, 1, none⟩ v1).setCell ⟨g, 2, none⟩ v2).setCell ⟨g, 3, none⟩ v3).setCell ⟨g, 4, none⟩ v4).heap[g]? = some (.cells #[v0, v1, v2, v3, v4] t (0, 0))) := by
  have h1 := blk_put (cs' := #[v0, a1, a2, a3, a4]) h 0 v0 rfl
  have h2 := blk_put (cs' := #[v0, v1, a2, a3, a4]) h1 1 v1 rfl
  have h3 := blk_put (cs' := #[v0, v1, v2, a3, a4]) h2 2 v2 rfl
  have h4 := blk_put (cs' := #[v0, v1, v2, v3, a4]) h3 3 v3 rfl
  have h5 := blk_put (cs' := #[v0, v1, v2, v3, v4]) h4 4 v4 rfl
  exact ⟨⟨blk_cell h 0, blk_frozen h 0⟩, ⟨blk_cell h1 1, blk_frozen h1 1⟩, ⟨blk_cell h2 2, blk_frozen h2 2⟩, ⟨blk_cell h3 3, blk_frozen h3 3⟩, ⟨blk_cell h4 4, blk_frozen h4 4⟩, h5⟩
theorem below5 {n : Nat} {w W : World} {g : Nat} (h : Below n w W) (hg : n ≤ g) (v0 v1 v2 v3 v4 : Value) :
    Below n w (((((W.setCell ⟨g, 0, none⟩ v0).setCell ⟨g, 1, none⟩ v1).setCell ⟨g, 2, none⟩ v2).setCell ⟨g, 3, none⟩ v3).setCell ⟨g, 4, none⟩ v4) :=
  ((((h.setCell (p := ⟨g, 0, none⟩) hg v0).setCell (p := ⟨g, 1, none⟩) hg v1).setCell (p := ⟨g, 2, none⟩) hg v2).setCell (p := ⟨g, 3, none⟩) hg v3).setCell (p := ⟨g, 4, none⟩) hg v4
/-- the meta that UnpackMeta reads before it holds it against the bytes -/
def progM (s : ByteArray) : Mt := ⟨wrap64 ((takeN s 8 8 : Nat) : Int), takeN s 16 4, takeN s 20 4, takeN s 24 4, takeN s 28 4⟩
def markB : ByteArray := ⟨#[82, 79, 76, 76, 66, 79, 79, 75]⟩
theorem prefixM (s : ByteArray) (h : (nums s).take 8 = markL) : Lib.hasPrefix s.data.toList (⟨#[82, 79, 76, 76, 66, 79, 79, 75]⟩ : ByteArray).data.toList = true := by
  have h1 : (s.data.toList.take 8).map UInt8.toNat = ([82, 79, 76, 76, 66, 79, 79, 75] : List UInt8).map UInt8.toNat := by
    rw [List.map_take]
    exact h
  have h2 : s.data.toList.take 8 = [82, 79, 76, 76, 66, 79, 79, 75] := List.map_inj_right (fun _ _ e => UInt8.toNat_inj.1 e) |>.1 h1
  have h3 : ([82, 79, 76, 76, 66, 79, 79, 75] : List UInt8) <+: s.data.toList := by
    rw [← h2]
    exact List.take_prefix _ _
  exact List.isPrefixOf_iff_prefix.2 h3
theorem prog_readsM (s : ByteArray) : (packM (progM s) = (s, 0) → unpackM s = (progM s, 0) ∧ (nums s).take 8 = markL) ∧ (packM (progM s) ≠ (s, 0) → unpackM s = (m0, 4)) := by
  constructor
  · intro h
    exact ⟨unpack_packM _ _ h, (get_packM _ _ h).2.2.2⟩
  · intro h
    apply unpackM_none
    intro m hm
    obtain ⟨h1, h2, h3, h4⟩ := get_packM _ _ hm
    apply h
    have e : progM s = getM s := by
      unfold progM getM
      have : wrap64 ((takeN s 8 8 : Nat) : Int) = ((takeN s 8 8 : Nat) : Int) := by unfold wrap64; omega
      rw [this]
    rw [e, h3]
    exact hm
set_option maxHeartbeats 4000000 in
set_option maxRecDepth 100000 in
theorem unpackMeta_any (s : ByteArray) (w : World) (hT : HasTab w) (hs : s.size ≤ 2000) :
    Calls Tryd.prog 37 #[.string s] w fun e w' => e = .returned (.tuple #[mtV (unpackM s).1, .int .i64 (unpackM s).2]) ∧ Below w.heap.size w w' := by
  have hT' := Lib.hid hT
  have hu46 := Tryd.underlying46
  have hB' := Lib.hid (blk_new w (Obj.cells #[Value.int .i64 0, .int .i64 0, .int .i64 0, .int .i64 0, .int .i64 0] 46))
  have hb0' := Lib.hid ((Below.refl w.heap.size w).alloc (Nat.le_refl _) (Obj.cells #[Value.int .i64 0, .int .i64 0, .int .i64 0, .int .i64 0, .int .i64 0] 46))
  by_cases hsz : s.size = 128
  · have hprog' := Lib.hid (prog_readsM s)
    have hq : ((s.size : Int) != 128) = false := by rw [hsz]; rfl
    have hpf : Hid (∀ v : World, Calls Tryd.prog 78 #[.string s, .string ⟨#[82, 79, 76, 76, 66, 79, 79, 75]⟩] v fun e w' => e = .returned (.bool (Lib.hasPrefix s.data.toList (⟨#[82, 79, 76, 76, 66, 79, 79, 75]⟩ : ByteArray).data.toList)) ∧ w' = v) := fun v => Tryd.strings_HasPrefix s _ v
    obtain ⟨x, hx⟩ : ∃ x, Lib.hasPrefix s.data.toList (⟨#[82, 79, 76, 76, 66, 79, 79, 75]⟩ : ByteArray).data.toList = x := ⟨_, rfl⟩
    rw [hx] at hpf
    have hx' := Lib.hid hx
    clear hx
    cases x
    · have hU : Hid (unpackM s = (m0, 4)) := by
        refine hprog'.out.2 (fun h => ?_)
        have := prefixM s (hprog'.out.1 h).2
        rw [hx'.out] at this
        cases this
      clear hT
      go_enter Tryd.func37, Tryd.ntmps37
      go_wp2_with fail
      refine (hpf.out _).mono ?_
      rintro e w2 ⟨rfl, rfl⟩
      go_wp2
      refine bodyPost_ret (v := .tuple #[mtV m0, .int .i64 4]) ?_ rfl ?_
      · exact results_ct (p := 2) (u := 3) (ty := 46) rfl _ _ w.heap.size 46 #[.int .i64 0, .int .i64 0, .int .i64 0, .int .i64 0, .int .i64 0] (0, 0) _ (by rfl) hB'.out hu46 rfl (by kernel_rfl)
      rw [hU.out]
      exact ⟨rfl, hb0'.out⟩
    · have h1 : Hid (atF s 8 8 = wrap64 ((takeN s 8 8 : Nat) : Int)) := at_is s 8 8 (by decide) (by decide) (by omega)
      have h2 : Hid (atF s 16 4 = ((takeN s 16 4 : Nat) : Int)) := at_small s 16 4 (by decide) (by decide) (by omega)
      have h3 : Hid (atF s 20 4 = ((takeN s 20 4 : Nat) : Int)) := at_small s 20 4 (by decide) (by decide) (by omega)
      have h4 : Hid (atF s 24 4 = ((takeN s 24 4 : Nat) : Int)) := at_small s 24 4 (by decide) (by decide) (by omega)
      have h5 : Hid (atF s 28 4 = ((takeN s 28 4 : Nat) : Int)) := at_small s 28 4 (by decide) (by decide) (by omega)
      clear hT
      have hlen : (32 : Int) ≤ (s.size : Int) := by omega
      go_enter Tryd.func37, Tryd.ntmps37
      go_wp2_with fail
      refine (hpf.out _).mono ?_
      rintro e w2 ⟨rfl, rfl⟩
      go_wp2_with fail
      refine (at_any s 8 8 _ (by omega)).mono ?_
      rw [h1.out]
      rintro e w3 ⟨rfl, hb3⟩
      have hb3' := Lib.hid (hb0'.out.trans (hb3.mono hb0'.out.size))
      have hB3 := Lib.hid (blk_below hB'.out hb3)
      clear hb3
      go_wp2_with fail
      refine (at_any s 16 4 _ (by omega)).mono ?_
      rw [h2.out]
      rintro e w4 ⟨rfl, hb4⟩
      have hb4' := Lib.hid (hb3'.out.trans (hb4.mono hb3'.out.size))
      have hB4 := Lib.hid (blk_below hB3.out hb4)
      clear hb4
      go_wp2_with fail
      refine (at_any s 20 4 _ (by omega)).mono ?_
      rw [h3.out]
      rintro e w5 ⟨rfl, hb5⟩
      have hb5' := Lib.hid (hb4'.out.trans (hb5.mono hb4'.out.size))
      have hB5 := Lib.hid (blk_below hB4.out hb5)
      clear hb5
      go_wp2_with fail
      refine (at_any s 24 4 _ (by omega)).mono ?_
      rw [h4.out]
      rintro e w6 ⟨rfl, hb6⟩
      have hb6' := Lib.hid (hb5'.out.trans (hb6.mono hb5'.out.size))
      have hB6 := Lib.hid (blk_below hB5.out hb6)
      clear hb6
      go_wp2_with fail
      refine (at_any s 28 4 _ (by omega)).mono ?_
      rw [h5.out]
      rintro e w7 ⟨rfl, hb7⟩
      have hb7' := Lib.hid (hb6'.out.trans (hb7.mono hb6'.out.size))
      have hB7 := Lib.hid (blk_below hB6.out hb7)
      have hlt7 : w.heap.size < w7.heap.size := blk_lt hB7.out
      clear hb7
      obtain ⟨f0, hf0⟩ : ∃ n : Int, n = wrap64 ((takeN s 8 8 : Nat) : Int) := ⟨_, rfl⟩
      obtain ⟨f1, hf1⟩ : ∃ n : Int, n = ((takeN s 16 4 : Nat) : Int) := ⟨_, rfl⟩
      obtain ⟨f2, hf2⟩ : ∃ n : Int, n = ((takeN s 20 4 : Nat) : Int) := ⟨_, rfl⟩
      obtain ⟨f3, hf3⟩ : ∃ n : Int, n = ((takeN s 24 4 : Nat) : Int) := ⟨_, rfl⟩
      obtain ⟨f4, hf4⟩ : ∃ n : Int, n = ((takeN s 28 4 : Nat) : Int) := ⟨_, rfl⟩
      have hps : Hid (progM s = ⟨f0, f1, f2, f3, f4⟩) := by
        show _ = _
        rw [hf0, hf1, hf2, hf3, hf4]; rfl
      rw [← hf0, ← hf1, ← hf2, ← hf3, ← hf4]
      clear h1 h2 h3 h4 h5 hf0 hf1 hf2 hf3 hf4 hx' hpf hb3' hb4' hb5' hb6' hB3 hB4 hB5 hB6
      have hC8 := Lib.hid (blk_new w7 (Obj.cells #[Value.int .i64 f0, .int .i64 f1, .int .i64 f2, .int .i64 f3, .int .i64 f4] 46))
      have hB8 := Lib.hid (blk_alloc hB7.out (Obj.cells #[Value.int .i64 f0, .int .i64 f1, .int .i64 f2, .int .i64 f3, .int .i64 f4] 46))
      have hb8 := Lib.hid (hb7'.out.alloc (Below.size hb7'.out) (Obj.cells #[Value.int .i64 f0, .int .i64 f1, .int .i64 f2, .int .i64 f3, .int .i64 f4] 46))
      obtain ⟨c0, c1, c2, c3, c4⟩ := cells5 hC8.out
      go_wp2_with fail
      refine (packMeta_any f0 f1 f2 f3 f4 _ (hT'.out.below hb8.out hT'.out.pos)).mono ?_
      clear c0 c1 c2 c3 c4
      rintro e w9 ⟨rfl, hb9⟩
      have hb9' := Lib.hid (hb8.out.trans (hb9.mono hb8.out.size))
      have hC9 := Lib.hid (blk_below hC8.out hb9)
      have hB9 := Lib.hid (blk_below hB8.out hb9)
      clear hb9
      have hpk : Hid (packM (progM s) = packM ⟨f0, f1, f2, f3, f4⟩) := by
        show _ = _
        rw [hps.out]
      obtain ⟨⟨z1, z2⟩, hz⟩ : ∃ z, packM ⟨f0, f1, f2, f3, f4⟩ = z := ⟨_, rfl⟩
      rw [hz] at hpk ⊢
      obtain ⟨b, hb⟩ : ∃ b, b = w7.heap.size := ⟨_, rfl⟩
      rw [← hb] at hC9 hlt7 ⊢
      clear hz hb hC8 hB8 hb8 hB7 hb7'
      by_cases hok : z2 = 0 ∧ z1 = s
      · obtain ⟨rfl, rfl⟩ := hok
        have hU : Hid (unpackM z1 = (⟨f0, f1, f2, f3, f4⟩, 0)) := by
          show _ = _
          rw [(hprog'.out.1 hpk.out).1, hps.out]
        obtain ⟨d0, d1, d2, d3, d4⟩ := cells5 hC9.out
        obtain ⟨⟨q0, r0⟩, ⟨q1, r1⟩, ⟨q2, r2⟩, ⟨q3, r3⟩, ⟨q4, r4⟩, hB10⟩ := store5 hB9.out (.int .i64 f0) (.int .i64 f1) (.int .i64 f2) (.int .i64 f3) (.int .i64 f4)
        go_wp2
        refine bodyPost_ret (v := .tuple #[mtV ⟨f0, f1, f2, f3, f4⟩, .int .i64 0]) ?_ rfl ?_
        · exact results_ct (p := 2) (u := 3) (ty := 46) rfl _ _ w.heap.size 46 #[.int .i64 f0, .int .i64 f1, .int .i64 f2, .int .i64 f3, .int .i64 f4] (0, 0) _ (by rfl) hB10.out hu46 rfl (by kernel_rfl)
        · rw [hU.out]
          exact ⟨rfl, below5 hb9'.out (Nat.le_refl _) _ _ _ _ _⟩
      · have hU : Hid (unpackM s = (m0, 4)) := hprog'.out.2 (fun h => hok (by rw [hpk.out] at h; injection h with h1 h2; exact ⟨h2, h1⟩))
        obtain ⟨⟨q0, r0⟩, ⟨q1, r1⟩, ⟨q2, r2⟩, ⟨q3, r3⟩, ⟨q4, r4⟩, hB10⟩ := store5 hB9.out (.int .i64 0) (.int .i64 0) (.int .i64 0) (.int .i64 0) (.int .i64 0)
        by_cases he : z2 = 0
        · have hne : (z1.toList == s.toList) = false := ne_bytes (fun h => hok ⟨he, h⟩)
          subst he
          go_wp2
          refine bodyPost_ret (v := .tuple #[mtV m0, .int .i64 4]) ?_ rfl ?_
          · exact results_ct (p := 2) (u := 3) (ty := 46) rfl _ _ w.heap.size 46 #[.int .i64 0, .int .i64 0, .int .i64 0, .int .i64 0, .int .i64 0] (0, 0) _ (by rfl) hB10.out hu46 rfl (by kernel_rfl)
          · rw [hU.out]
            exact ⟨rfl, below5 hb9'.out (Nat.le_refl _) _ _ _ _ _⟩
        · have hez : (z2 != 0) = true := by simpa using he
          go_wp2
          refine bodyPost_ret (v := .tuple #[mtV m0, .int .i64 4]) ?_ rfl ?_
          · exact results_ct (p := 2) (u := 3) (ty := 46) rfl _ _ w.heap.size 46 #[.int .i64 0, .int .i64 0, .int .i64 0, .int .i64 0, .int .i64 0] (0, 0) _ (by rfl) hB10.out hu46 rfl (by kernel_rfl)
          · rw [hU.out]
            exact ⟨rfl, below5 hb9'.out (Nat.le_refl _) _ _ _ _ _⟩
  · have hU : unpackM s = (m0, 4) := by unfold unpackM; rw [if_neg (fun h => hsz h.1)]
    have hne : ¬ ((s.size : Int) = 128) := by omega
    rw [hU]
    clear hU hT
    go_enter Tryd.func37, Tryd.ntmps37
    go_wp2_with fail
    refine bodyPost_ret (v := .tuple #[mtV m0, .int .i64 4]) ?_ rfl ?_
    · exact results_ct (p := 2) (u := 3) (ty := 46) rfl _ _ w.heap.size 46 #[.int .i64 0, .int .i64 0, .int .i64 0, .int .i64 0, .int .i64 0] (0, 0) _ (by rfl) hB'.out hu46 rfl (by kernel_rfl)
    exact ⟨rfl, hb0'.out⟩
end Go.Proofs.YtcoddeemfdnjpaaDoor.PagePlain
