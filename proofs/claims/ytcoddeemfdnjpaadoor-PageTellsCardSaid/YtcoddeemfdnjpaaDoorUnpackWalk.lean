/- The walk of page.Unpack. -/
import Derived.Test.YtcoddeemfdnjpaaDoorPackWalk
namespace Go.Proofs.YtcoddeemfdnjpaaDoor.PagePlain
open Go.RowKit CrcPlain NumPlain FieldPlain
open Go.Proofs.YtcoddeemfdnjpaaDoorW.PrintMore
open Go.Proofs.YtcoddeemfdnjpaaDoorW.PrintWords hiding nums nums_length nums_append
def pgV (p : Pg) : Value := .agg #[.int .i64 p.kind, .int .i64 p.no, .int .i64 p.txn, .string p.body]
theorem at_is (s : ByteArray) (a n : Nat) (hn : 1 ≤ n) (h8 : n ≤ 8) (h : a + n ≤ s.size) : atF s (a : Int) (n : Int) = wrap64 ((takeN s a n : Nat) : Int) := by
  unfold atF takeF
  rw [if_neg (by omega), if_neg (by omega)]
  simp only [Int.toNat_natCast]
theorem at_small (s : ByteArray) (a n : Nat) (hn : 1 ≤ n) (h8 : n ≤ 4) (h : a + n ≤ s.size) : atF s (a : Int) (n : Int) = ((takeN s a n : Nat) : Int) := by
  rw [at_is s a n hn (by omega) h]
  have h1 := takeN_lt s a n h
  have h2 : 256 ^ n ≤ 256 ^ 4 := Nat.pow_le_pow_right (by decide) h8
  unfold wrap64
  omega
theorem ne_bytes {x s : ByteArray} (h : ¬ x = s) : (x.toList == s.toList) = false := by
  apply beq_false_of_ne
  intro e
  rw [Lib.toList_data, Lib.toList_data] at e
  apply h
  cases x; cases s
  simp only [ByteArray.mk.injEq]
  exact Array.toList_inj.1 e
/-- a struct of four fields stored: what each step wants -/
theorem store4 {W : World} {g : Nat} {t : TypeId} {a0 a1 a2 a3 : Value} (h : W.heap[g]? = some (.cells #[a0, a1, a2, a3] t (0, 0))) (v0 v1 v2 v3 : Value) :
    (W.cell? ⟨g, 0, none⟩ = some a0 ∧ W.frozen? ⟨g, 0, none⟩ = false) ∧
    ((W.setCell ⟨g, 0, none⟩ v0).cell? ⟨g, 1, none⟩ = some a1 ∧ (W.setCell ⟨g, 0, none⟩ v0).frozen? ⟨g, 1, none⟩ = false) ∧
    (((W.setCell ⟨g, 0, none⟩ v0).setCell ⟨g, 1, none⟩ v1).cell? ⟨g, 2, none⟩ = some a2 ∧ ((W.setCell ⟨g, 0, none⟩ v0).setCell ⟨g, 1, none⟩ v1).frozen? ⟨g, 2, none⟩ = false) ∧
    ((((W.setCell ⟨g, 0, none⟩ v0).setCell ⟨g, 1, none⟩ v1).setCell ⟨g, 2, none⟩ v2).cell? ⟨g, 3, none⟩ = some a3 ∧ (((W.setCell ⟨g, 0, none⟩ v0).setCell ⟨g, 1, none⟩ v1).setCell ⟨g, 2, none⟩ v2).frozen? ⟨g, 3, none⟩ = false) ∧
    Hid (((((W.setCell ⟨g, 0, none⟩ v0).setCell ⟨g, 1, none⟩ v1).setCell ⟨g, 2, none⟩ v2).setCell ⟨g, 3, none⟩ v3).heap[g]? = some (.cells #[v0, v1, v2, v3] t (0, 0))) := by
  have h1 := blk_put (cs' := #[v0, a1, a2, a3]) h 0 v0 rfl
  have h2 := blk_put (cs' := #[v0, v1, a2, a3]) h1 1 v1 rfl
  have h3 := blk_put (cs' := #[v0, v1, v2, a3]) h2 2 v2 rfl
  have h4 := blk_put (cs' := #[v0, v1, v2, v3]) h3 3 v3 rfl
  exact ⟨⟨blk_cell h 0, blk_frozen h 0⟩, ⟨blk_cell h1 1, blk_frozen h1 1⟩, ⟨blk_cell h2 2, blk_frozen h2 2⟩, ⟨blk_cell h3 3, blk_frozen h3 3⟩, h4⟩
theorem below4 {w W : World} {g : Nat} (h : Below w.heap.size w W) (hg : w.heap.size ≤ g) (v0 v1 v2 v3 : Value) :
    Below w.heap.size w ((((W.setCell ⟨g, 0, none⟩ v0).setCell ⟨g, 1, none⟩ v1).setCell ⟨g, 2, none⟩ v2).setCell ⟨g, 3, none⟩ v3) :=
  (((h.setCell (p := ⟨g, 0, none⟩) hg v0).setCell (p := ⟨g, 1, none⟩) hg v1).setCell (p := ⟨g, 2, none⟩) hg v2).setCell (p := ⟨g, 3, none⟩) hg v3
/-- the page that Unpack reads before it holds it against the bytes -/
def progP (s : ByteArray) : Pg := ⟨takeN s 2 1, takeN s 6 4, wrap64 ((takeN s 10 8 : Nat) : Int), if takeN s 4 2 ≤ 488 then s.extract 24 (24 + takeN s 4 2) else ⟨#[]⟩⟩
theorem prefix_iff (s : ByteArray) : (Lib.hasPrefix s.data.toList (⟨#[82, 66]⟩ : ByteArray).data.toList = true) ↔ (nums s).take 2 = [82, 66] := by
  show ([82, 66] : List UInt8).isPrefixOf s.data.toList = true ↔ (s.data.toList.map UInt8.toNat).take 2 = [82, 66]
  have key : ∀ a : UInt8, ∀ n : Nat, n < 256 → (a.toNat = n ↔ UInt8.ofNat n = a) := by
    intro a n hn
    constructor
    · rintro rfl; simp
    · rintro rfl; rw [UInt8.toNat_ofNat']; omega
  cases s.data.toList with
  | nil => simp
  | cons a l => cases l with
    | nil => simp [List.isPrefixOf]
    | cons b l =>
      have h1 := key a 82 (by decide)
      have h2 := key b 66 (by decide)
      simp [List.isPrefixOf, h1, h2]
/-- THE LAW: what the program reads is what is told -/
theorem prog_reads (s : ByteArray) (hs : s.size = 512) : (packP (progP s) = (s, 0) → unpackF s = (progP s, 0) ∧ (nums s).take 2 = [82, 66]) ∧ (packP (progP s) ≠ (s, 0) → unpackF s = (z0, 4)) := by
  have ht : takeN s 10 8 < 18446744073709551616 := takeN_lt s 10 8 (by omega)
  constructor
  · intro h
    obtain ⟨_, h2, h3, h4, h5, h6⟩ := get_pack _ _ h
    exact ⟨unpack_pack _ _ h, h6⟩
  · intro h
    apply unpack_none
    intro p hp
    obtain ⟨_, h2, h3, h4, h5, h6⟩ := get_pack _ _ hp
    apply h
    have e : progP s = getP s := by
      unfold progP getP
      rw [if_pos h3]
      have : wrap64 ((takeN s 10 8 : Nat) : Int) = ((takeN s 10 8 : Nat) : Int) := by unfold wrap64; omega
      rw [this]
    rw [e, h5]
    exact hp
set_option maxHeartbeats 2000000 in
set_option maxRecDepth 100000 in
theorem unpack_any (s : ByteArray) (w : World) (hT : HasTab w) (hs : s.size ≤ 2000) :
    Calls Tryd.prog 31 #[.string s] w fun e w' => e = .returned (.tuple #[pgV (unpackF s).1, .int .i64 (unpackF s).2]) ∧ Below w.heap.size w w' := by
  have hT' := Lib.hid hT
  have hu31 := Tryd.underlying31
  have hB := blk_new w (Obj.cells #[Value.int .i64 0, .int .i64 0, .int .i64 0, .string ⟨#[]⟩] 31)
  have hb0 := (Below.refl w.heap.size w).alloc (Nat.le_refl _) (Obj.cells #[Value.int .i64 0, .int .i64 0, .int .i64 0, .string ⟨#[]⟩] 31)
  have hB' := Lib.hid hB
  have hb0' := Lib.hid hb0
  clear hB hb0
  by_cases hsz : s.size = 512
  · have hprog := prog_reads s hsz
    have hprog' := Lib.hid hprog
    have hpre := prefix_iff s
    have hpre' := Lib.hid hpre
    have hq : ((s.size : Int) != 512) = false := by rw [hsz]; rfl
    have hpf : Hid (∀ v : World, Calls Tryd.prog 78 #[.string s, .string ⟨#[82, 66]⟩] v fun e w' => e = .returned (.bool (Lib.hasPrefix s.data.toList (⟨#[82, 66]⟩ : ByteArray).data.toList)) ∧ w' = v) := fun v => Tryd.strings_HasPrefix s _ v
    obtain ⟨x, hx⟩ : ∃ x, Lib.hasPrefix s.data.toList (⟨#[82, 66]⟩ : ByteArray).data.toList = x := ⟨_, rfl⟩
    rw [hx] at hpf
    have hx' := Lib.hid hx
    clear hprog hpre hx
    cases x
    · have hU : Hid (unpackF s = (z0, 4)) := by
        refine hprog'.out.2 (fun h => ?_)
        have := hpre'.out.2 (hprog'.out.1 h).2
        rw [hx'.out] at this
        cases this
      clear hT
      go_enter Tryd.func31, Tryd.ntmps31
      go_wp2_with fail
      refine (hpf.out _).mono ?_
      rintro e w2 ⟨rfl, rfl⟩
      go_wp2
      refine bodyPost_ret (v := .tuple #[pgV z0, .int .i64 4]) ?_ rfl ?_
      · exact results_ct (p := 2) (u := 3) (ty := 31) rfl _ _ w.heap.size 31 #[.int .i64 0, .int .i64 0, .int .i64 0, .string (⟨#[]⟩ : ByteArray)] (0, 0) _ (by rfl) hB'.out hu31 rfl (by kernel_rfl)
      rw [hU.out]
      exact ⟨rfl, hb0'.out⟩
    · have h1 : Hid (atF s 2 1 = ((takeN s 2 1 : Nat) : Int)) := at_small s 2 1 (by decide) (by decide) (by omega)
      have h2 : Hid (atF s 6 4 = ((takeN s 6 4 : Nat) : Int)) := at_small s 6 4 (by decide) (by decide) (by omega)
      have h3 : Hid (atF s 10 8 = wrap64 ((takeN s 10 8 : Nat) : Int)) := at_is s 10 8 (by decide) (by decide) (by omega)
      have h4 : Hid (atF s 4 2 = ((takeN s 4 2 : Nat) : Int)) := at_small s 4 2 (by decide) (by decide) (by omega)
      clear hT
      go_enter Tryd.func31, Tryd.ntmps31
      go_wp2_with fail
      refine (hpf.out _).mono ?_
      rintro e w2 ⟨rfl, rfl⟩
      go_wp2_with fail
      refine (at_any s 2 1 _ (by omega)).mono ?_
      rw [h1.out]
      rintro e w3 ⟨rfl, hb3⟩
      have hb3' := Lib.hid (hb0'.out.trans (hb3.mono hb0'.out.size))
      have hB3 := Lib.hid (blk_below hB'.out hb3)
      clear hb3
      go_wp2_with fail
      refine (at_any s 6 4 _ (by omega)).mono ?_
      rw [h2.out]
      rintro e w4 ⟨rfl, hb4⟩
      have hb4' := Lib.hid (hb3'.out.trans (hb4.mono hb3'.out.size))
      have hB4 := Lib.hid (blk_below hB3.out hb4)
      clear hb4
      go_wp2_with fail
      refine (at_any s 10 8 _ (by omega)).mono ?_
      rw [h3.out]
      rintro e w5 ⟨rfl, hb5⟩
      have hb5' := Lib.hid (hb4'.out.trans (hb5.mono hb4'.out.size))
      have hB5 := Lib.hid (blk_below hB4.out hb5)
      clear hb5
      go_wp2_with fail
      refine (at_any s 4 2 _ (by omega)).mono ?_
      rw [h4.out]
      rintro e w6 ⟨rfl, hb6⟩
      have hbA := hb5'.out.alloc (Below.size hb5'.out) (Obj.cells #[Value.int .i64 ((takeN s 2 1 : Nat) : Int), .int .i64 ((takeN s 6 4 : Nat) : Int), .int .i64 (wrap64 ((takeN s 10 8 : Nat) : Int)), .string ⟨#[]⟩] 31)
      have hb6' := Lib.hid (hbA.trans (hb6.mono hbA.size))
      have hB6 := Lib.hid (blk_below (blk_alloc hB5.out (Obj.cells #[Value.int .i64 ((takeN s 2 1 : Nat) : Int), .int .i64 ((takeN s 6 4 : Nat) : Int), .int .i64 (wrap64 ((takeN s 10 8 : Nat) : Int)), .string ⟨#[]⟩] 31)) hb6)
      have hC6 := Lib.hid (blk_below (blk_new w5 (Obj.cells #[Value.int .i64 ((takeN s 2 1 : Nat) : Int), .int .i64 ((takeN s 6 4 : Nat) : Int), .int .i64 (wrap64 ((takeN s 10 8 : Nat) : Int)), .string ⟨#[]⟩] 31)) hb6)
      have hlt5 : w.heap.size < w5.heap.size := blk_lt hB5.out
      obtain ⟨b, hb⟩ : ∃ b, b = w5.heap.size := ⟨_, rfl⟩
      rw [← hb] at hC6 hlt5 ⊢
      clear hb6 hbA hb3' hb4' hb5' hB3 hB4 hB5 hb
      have hps : Hid (progP s = ⟨takeN s 2 1, takeN s 6 4, wrap64 ((takeN s 10 8 : Nat) : Int), if takeN s 4 2 ≤ 488 then s.extract 24 (24 + takeN s 4 2) else ⟨#[]⟩⟩) := rfl
      obtain ⟨n, hn⟩ : ∃ n, n = takeN s 4 2 := ⟨_, rfl⟩
      obtain ⟨f0, hf0⟩ : ∃ n : Int, n = ((takeN s 2 1 : Nat) : Int) := ⟨_, rfl⟩
      obtain ⟨f1, hf1⟩ : ∃ n : Int, n = ((takeN s 6 4 : Nat) : Int) := ⟨_, rfl⟩
      obtain ⟨f2, hf2⟩ : ∃ n : Int, n = wrap64 ((takeN s 10 8 : Nat) : Int) := ⟨_, rfl⟩
      rw [← hn, ← hf0, ← hf1, ← hf2] at hps
      rw [← hf0, ← hf1, ← hf2] at hC6
      rw [← hn, ← hf0, ← hf1, ← hf2]
      clear hn hf0 hf1 hf2 h1 h2 h3 h4 hx' hpf
      by_cases hn4 : n ≤ 488
      · have hfz : w6.frozen? ⟨b, 3, none⟩ = false := blk_frozen hC6.out 3
        have hcc : w6.cell? ⟨b, 3, none⟩ = some (.string ⟨#[]⟩) := blk_cell hC6.out 3
        have hl1 : ((n : Int)) ≤ 488 := by omega
        have hl2 : (24 : Int) ≤ 24 + (n : Int) := by omega
        have hl3 : 24 + (n : Int) ≤ (s.size : Int) := by omega
        have hC7 := Lib.hid (blk_put hC6.out 3 (.string (s.extract 24 (24 + n))) rfl)
        have hb7 := Lib.hid (hb6'.out.setCell (p := ⟨b, 3, none⟩) (by show w.heap.size ≤ b; omega) (.string (s.extract 24 (24 + n))))
        have hB7 := Lib.hid (blk_far hB6.out (p := ⟨b, 3, none⟩) (by show w.heap.size ≠ b; omega) (.string (s.extract 24 (24 + n))))
        have hd0 : (w6.setCell ⟨b, 3, none⟩ (.string (s.extract 24 (24 + n)))).cell? ⟨b, 0, none⟩ = some (.int .i64 f0) := blk_cell hC7.out 0
        have hd1 : (w6.setCell ⟨b, 3, none⟩ (.string (s.extract 24 (24 + n)))).cell? ⟨b, 1, none⟩ = some (.int .i64 f1) := blk_cell hC7.out 1
        have hd2 : (w6.setCell ⟨b, 3, none⟩ (.string (s.extract 24 (24 + n)))).cell? ⟨b, 2, none⟩ = some (.int .i64 f2) := blk_cell hC7.out 2
        have hd3 : (w6.setCell ⟨b, 3, none⟩ (.string (s.extract 24 (24 + n)))).cell? ⟨b, 3, none⟩ = some (.string (s.extract 24 (24 + n))) := blk_cell hC7.out 3
        have hes : (s.extract 24 (24 + n)).size ≤ 2000 := by rw [ByteArray.size_extract]; omega
        rw [if_pos hn4] at hps
        go_wp2_with fail
        refine (pack_any f0 f1 f2 (s.extract 24 (24 + n)) _ (hT'.out.below hb7.out hT'.out.pos) hes).mono ?_
        rintro e w8 ⟨rfl, hb8⟩
        have hb8' := Lib.hid (hb7.out.trans (hb8.mono hb7.out.size))
        have hC8 := Lib.hid (blk_below hC7.out hb8)
        have hB8 := Lib.hid (blk_below hB7.out hb8)
        have hpk : Hid (packP (progP s) = packF f0 f1 f2 (s.extract 24 (24 + n))) := by
          show _ = _
          rw [hps.out]; rfl
        obtain ⟨z, hz⟩ : ∃ z, packF f0 f1 f2 (s.extract 24 (24 + n)) = z := ⟨_, rfl⟩
        obtain ⟨z1, z2⟩ := z
        rw [hz] at hpk ⊢
        obtain ⟨bd, hbd⟩ : ∃ bd, bd = s.extract 24 (24 + n) := ⟨_, rfl⟩
        rw [← hbd] at hC8 hps
        rw [← hbd]
        clear hb8 hb7 hC7 hB7 hd0 hd1 hd2 hd3 hz hfz hcc hbd hB6 hC6 hb6'
        by_cases hok : z2 = 0 ∧ z1 = s
        · obtain ⟨rfl, rfl⟩ := hok
          have hU : Hid (unpackF z1 = (⟨f0, f1, f2, bd⟩, 0)) := by
            show _ = _
            rw [(hprog'.out.1 hpk.out).1, hps.out]
          have hd0 : w8.cell? ⟨b, 0, none⟩ = some (.int .i64 f0) := blk_cell hC8.out 0
          have hd1 : w8.cell? ⟨b, 1, none⟩ = some (.int .i64 f1) := blk_cell hC8.out 1
          have hd2 : w8.cell? ⟨b, 2, none⟩ = some (.int .i64 f2) := blk_cell hC8.out 2
          have hd3 : w8.cell? ⟨b, 3, none⟩ = some (.string bd) := blk_cell hC8.out 3
          obtain ⟨⟨q0, r0⟩, ⟨q1, r1⟩, ⟨q2, r2⟩, ⟨q3, r3⟩, hB9⟩ := store4 hB8.out (.int .i64 f0) (.int .i64 f1) (.int .i64 f2) (.string bd)
          go_wp2
          refine bodyPost_ret (v := .tuple #[pgV ⟨f0, f1, f2, bd⟩, .int .i64 0]) ?_ rfl ?_
          · exact results_ct (p := 2) (u := 3) (ty := 31) rfl _ _ w.heap.size 31 #[.int .i64 f0, .int .i64 f1, .int .i64 f2, .string bd] (0, 0) _ (by rfl) hB9.out hu31 rfl (by kernel_rfl)
          · rw [hU.out]
            exact ⟨rfl, below4 hb8'.out (Nat.le_refl _) _ _ _ _⟩
        · have hU : Hid (unpackF s = (z0, 4)) := hprog'.out.2 (fun h => hok (by rw [hpk.out] at h; injection h with h1 h2; exact ⟨h2, h1⟩))
          obtain ⟨⟨q0, r0⟩, ⟨q1, r1⟩, ⟨q2, r2⟩, ⟨q3, r3⟩, hB9⟩ := store4 hB8.out (.int .i64 0) (.int .i64 0) (.int .i64 0) (.string ⟨#[]⟩)
          by_cases he : z2 = 0
          · have hne : (z1.toList == s.toList) = false := ne_bytes (fun h => hok ⟨he, h⟩)
            subst he
            go_wp2
            refine bodyPost_ret (v := .tuple #[pgV z0, .int .i64 4]) ?_ rfl ?_
            · exact results_ct (p := 2) (u := 3) (ty := 31) rfl _ _ w.heap.size 31 #[.int .i64 0, .int .i64 0, .int .i64 0, .string (⟨#[]⟩ : ByteArray)] (0, 0) _ (by rfl) hB9.out hu31 rfl (by kernel_rfl)
            · rw [hU.out]
              exact ⟨rfl, below4 hb8'.out (Nat.le_refl _) _ _ _ _⟩
          · have hez : (z2 != 0) = true := by simpa using he
            go_wp2
            refine bodyPost_ret (v := .tuple #[pgV z0, .int .i64 4]) ?_ rfl ?_
            · exact results_ct (p := 2) (u := 3) (ty := 31) rfl _ _ w.heap.size 31 #[.int .i64 0, .int .i64 0, .int .i64 0, .string (⟨#[]⟩ : ByteArray)] (0, 0) _ (by rfl) hB9.out hu31 rfl (by kernel_rfl)
            · rw [hU.out]
              exact ⟨rfl, below4 hb8'.out (Nat.le_refl _) _ _ _ _⟩
      · have hl1 : ¬ ((n : Int)) ≤ 488 := by omega
        have hd0 : w6.cell? ⟨b, 0, none⟩ = some (.int .i64 f0) := blk_cell hC6.out 0
        have hd1 : w6.cell? ⟨b, 1, none⟩ = some (.int .i64 f1) := blk_cell hC6.out 1
        have hd2 : w6.cell? ⟨b, 2, none⟩ = some (.int .i64 f2) := blk_cell hC6.out 2
        have hd3 : w6.cell? ⟨b, 3, none⟩ = some (.string ⟨#[]⟩) := blk_cell hC6.out 3
        rw [if_neg hn4] at hps
        go_wp2_with fail
        refine (pack_any f0 f1 f2 ⟨#[]⟩ _ (hT'.out.below hb6'.out hT'.out.pos) (by decide)).mono ?_
        rintro e w8 ⟨rfl, hb8⟩
        have hb8' := Lib.hid (hb6'.out.trans (hb8.mono hb6'.out.size))
        have hC8 := Lib.hid (blk_below hC6.out hb8)
        have hB8 := Lib.hid (blk_below hB6.out hb8)
        have hpk : Hid (packP (progP s) = packF f0 f1 f2 ⟨#[]⟩) := by
          show _ = _
          rw [hps.out]; rfl
        obtain ⟨z, hz⟩ : ∃ z, packF f0 f1 f2 ⟨#[]⟩ = z := ⟨_, rfl⟩
        obtain ⟨z1, z2⟩ := z
        rw [hz] at hpk ⊢
        clear hb8 hd0 hd1 hd2 hd3 hz hB6 hC6 hb6'
        by_cases hok : z2 = 0 ∧ z1 = s
        · obtain ⟨rfl, rfl⟩ := hok
          have hU : Hid (unpackF z1 = (⟨f0, f1, f2, ⟨#[]⟩⟩, 0)) := by
            show _ = _
            rw [(hprog'.out.1 hpk.out).1, hps.out]
          have hd0 : w8.cell? ⟨b, 0, none⟩ = some (.int .i64 f0) := blk_cell hC8.out 0
          have hd1 : w8.cell? ⟨b, 1, none⟩ = some (.int .i64 f1) := blk_cell hC8.out 1
          have hd2 : w8.cell? ⟨b, 2, none⟩ = some (.int .i64 f2) := blk_cell hC8.out 2
          have hd3 : w8.cell? ⟨b, 3, none⟩ = some (.string ⟨#[]⟩) := blk_cell hC8.out 3
          obtain ⟨⟨q0, r0⟩, ⟨q1, r1⟩, ⟨q2, r2⟩, ⟨q3, r3⟩, hB9⟩ := store4 hB8.out (.int .i64 f0) (.int .i64 f1) (.int .i64 f2) (.string ⟨#[]⟩)
          go_wp2
          refine bodyPost_ret (v := .tuple #[pgV ⟨f0, f1, f2, ⟨#[]⟩⟩, .int .i64 0]) ?_ rfl ?_
          · exact results_ct (p := 2) (u := 3) (ty := 31) rfl _ _ w.heap.size 31 #[.int .i64 f0, .int .i64 f1, .int .i64 f2, .string ⟨#[]⟩] (0, 0) _ (by rfl) hB9.out hu31 rfl (by kernel_rfl)
          · rw [hU.out]
            exact ⟨rfl, below4 hb8'.out (Nat.le_refl _) _ _ _ _⟩
        · have hU : Hid (unpackF s = (z0, 4)) := hprog'.out.2 (fun h => hok (by rw [hpk.out] at h; injection h with h1 h2; exact ⟨h2, h1⟩))
          obtain ⟨⟨q0, r0⟩, ⟨q1, r1⟩, ⟨q2, r2⟩, ⟨q3, r3⟩, hB9⟩ := store4 hB8.out (.int .i64 0) (.int .i64 0) (.int .i64 0) (.string ⟨#[]⟩)
          by_cases he : z2 = 0
          · have hne : (z1.toList == s.toList) = false := ne_bytes (fun h => hok ⟨he, h⟩)
            subst he
            go_wp2
            refine bodyPost_ret (v := .tuple #[pgV z0, .int .i64 4]) ?_ rfl ?_
            · exact results_ct (p := 2) (u := 3) (ty := 31) rfl _ _ w.heap.size 31 #[.int .i64 0, .int .i64 0, .int .i64 0, .string (⟨#[]⟩ : ByteArray)] (0, 0) _ (by rfl) hB9.out hu31 rfl (by kernel_rfl)
            · rw [hU.out]
              exact ⟨rfl, below4 hb8'.out (Nat.le_refl _) _ _ _ _⟩
          · have hez : (z2 != 0) = true := by simpa using he
            go_wp2
            refine bodyPost_ret (v := .tuple #[pgV z0, .int .i64 4]) ?_ rfl ?_
            · exact results_ct (p := 2) (u := 3) (ty := 31) rfl _ _ w.heap.size 31 #[.int .i64 0, .int .i64 0, .int .i64 0, .string (⟨#[]⟩ : ByteArray)] (0, 0) _ (by rfl) hB9.out hu31 rfl (by kernel_rfl)
            · rw [hU.out]
              exact ⟨rfl, below4 hb8'.out (Nat.le_refl _) _ _ _ _⟩
  · have hU : unpackF s = (z0, 4) := by unfold unpackF; rw [if_neg (fun h => hsz h.1)]
    have hne : ¬ ((s.size : Int) = 512) := by omega
    rw [hU]
    clear hU hT
    go_enter Tryd.func31, Tryd.ntmps31
    go_wp2_with fail
    refine bodyPost_ret (v := .tuple #[pgV z0, .int .i64 4]) ?_ rfl ?_
    · exact results_ct (p := 2) (u := 3) (ty := 31) rfl _ _ w.heap.size 31 #[.int .i64 0, .int .i64 0, .int .i64 0, .string (⟨#[]⟩ : ByteArray)] (0, 0) _ (by rfl) hB'.out hu31 rfl (by kernel_rfl)
    exact ⟨rfl, hb0'.out⟩
end Go.Proofs.YtcoddeemfdnjpaaDoor.PagePlain
