/- The walks of metas: RightMeta and its closure, PackMeta. -/
import Derived.Test.YtcoddeemfdnjpaaDoorMetaPlain
import Derived.Test.YtcoddeemfdnjpaaDoorUnpackWalk
import Derived.Deep.QuietTactic
import Derived.BigQuiet
namespace Go.Proofs.YtcoddeemfdnjpaaDoor.PagePlain
open Go.RowKit CrcPlain NumPlain FieldPlain
open Go.Proofs.YtcoddeemfdnjpaaDoorW.PrintMore
open Go.Proofs.YtcoddeemfdnjpaaDoorW.PrintWords hiding nums nums_length nums_append
set_option maxHeartbeats 400000 in
set_option maxRecDepth 100000 in
theorem within_any (n a b : Int) (w : World) : Calls Tryd.prog 81 #[.int .i64 n, .int .i64 a, .int .i64 b] w fun e w' => e = .returned (.bool (decide (a ≤ n ∧ n ≤ b))) ∧ w' = w := by
  by_cases h1 : a ≤ n
  · by_cases h2 : n ≤ b
    · have e : decide (a ≤ n ∧ n ≤ b) = true := decide_eq_true ⟨h1, h2⟩
      rw [e]
      go_enter Tryd.func81, Tryd.ntmps81
      go_wp2
      go_ret
      exact ⟨rfl, rfl⟩
    · have e : decide (a ≤ n ∧ n ≤ b) = false := decide_eq_false (fun h => h2 h.2)
      have h2' : ¬ n ≤ b := h2
      rw [e]
      go_enter Tryd.func81, Tryd.ntmps81
      go_wp2
      go_ret
      exact ⟨by simp, rfl⟩
  · have e : decide (a ≤ n ∧ n ≤ b) = false := decide_eq_false (fun h => h1 h.1)
    rw [e]
    go_enter Tryd.func81, Tryd.ntmps81
    go_wp2
    go_ret
    exact ⟨rfl, rfl⟩
def mtV (m : Mt) : Value := .agg #[.int .i64 m.txn, .int .i64 m.root, .int .i64 m.free, .int .i64 m.pages, .int .i64 m.limit]
theorem within_is (n a b : Int) (x : Bool) (h : decide (a ≤ n ∧ n ≤ b) = x) : ∀ w : World, Calls Tryd.prog 81 #[.int .i64 n, .int .i64 a, .int .i64 b] w fun e w' => e = .returned (.bool x) ∧ w' = w := by
  intro w
  rw [← h]
  exact within_any n a b w
set_option maxHeartbeats 1000000 in
set_option maxRecDepth 100000 in
theorem rightMeta_any (t r f p l : Int) (w : World) :
    Calls Tryd.prog 41 #[.agg #[.int .i64 t, .int .i64 r, .int .i64 f, .int .i64 p, .int .i64 l]] w fun e w' => e = .returned (.bool (rightM ⟨t, r, f, p, l⟩)) ∧ Below w.heap.size w w' := by
  have hu46 := Tryd.underlying46
  have hb0 := Lib.hid ((Below.refl w.heap.size w).alloc (Nat.le_refl _) (Obj.cells #[.int .i64 t, .int .i64 r, .int .i64 f, .int .i64 p, .int .i64 l] 46))
  by_cases c0 : 0 ≤ t ∧ t ≤ 1099511627776
  · have k0 := Lib.hid (within_is t 0 1099511627776 true (decide_eq_true c0))
    by_cases c1 : 2 ≤ l ∧ l ≤ 512
    · have k1 := Lib.hid (within_is l 2 512 true (decide_eq_true c1))
      by_cases c2 : 1 ≤ p ∧ p ≤ l
      · have k2 := Lib.hid (within_is p 1 l true (decide_eq_true c2))
        by_cases c3 : 0 ≤ r ∧ r ≤ (p - 1)
        · have k3 := Lib.hid (within_is r 0 (p - 1) true (decide_eq_true c3))
          by_cases c4 : 0 ≤ f ∧ f ≤ (p - 1)
          · have k4 := Lib.hid (within_is f 0 (p - 1) true (decide_eq_true c4))
            have hR : Hid (rightM ⟨t, r, f, p, l⟩ = true) := (rightM_iff _).2 ⟨c0.1, c0.2, c1.1, c1.2, c2.1, c2.2, c3.1, c3.2, c4.1, c4.2⟩
            go_enter Tryd.func41, Tryd.ntmps41
            go_wp2_with fail
            refine (k0.out _).mono ?_
            rintro e w2 ⟨rfl, rfl⟩
            go_wp2_with fail
            refine (k1.out _).mono ?_
            rintro e w2 ⟨rfl, rfl⟩
            go_wp2_with fail
            refine (k2.out _).mono ?_
            rintro e w2 ⟨rfl, rfl⟩
            go_wp2_with fail
            refine (k3.out _).mono ?_
            rintro e w2 ⟨rfl, rfl⟩
            go_wp2_with fail
            refine (k4.out _).mono ?_
            rintro e w2 ⟨rfl, rfl⟩
            go_wp2
            go_ret
            rw [hR.out]
            exact ⟨rfl, hb0.out⟩
          · have k4 := Lib.hid (within_is f 0 (p - 1) false (decide_eq_false c4))
            have hR : Hid (rightM ⟨t, r, f, p, l⟩ = false) := by
              show _ = _
              rw [Bool.eq_false_iff]
              intro hh
              have h := (rightM_iff _).1 hh
              exact c4 ⟨h.2.2.2.2.2.2.2.2.1, h.2.2.2.2.2.2.2.2.2⟩
            clear c4
            go_enter Tryd.func41, Tryd.ntmps41
            go_wp2_with fail
            refine (k0.out _).mono ?_
            rintro e w2 ⟨rfl, rfl⟩
            go_wp2_with fail
            refine (k1.out _).mono ?_
            rintro e w2 ⟨rfl, rfl⟩
            go_wp2_with fail
            refine (k2.out _).mono ?_
            rintro e w2 ⟨rfl, rfl⟩
            go_wp2_with fail
            refine (k3.out _).mono ?_
            rintro e w2 ⟨rfl, rfl⟩
            go_wp2_with fail
            refine (k4.out _).mono ?_
            rintro e w2 ⟨rfl, rfl⟩
            go_wp2
            go_ret
            rw [hR.out]
            exact ⟨rfl, hb0.out⟩
        · have k3 := Lib.hid (within_is r 0 (p - 1) false (decide_eq_false c3))
          have hR : Hid (rightM ⟨t, r, f, p, l⟩ = false) := by
            show _ = _
            rw [Bool.eq_false_iff]
            intro hh
            have h := (rightM_iff _).1 hh
            exact c3 ⟨h.2.2.2.2.2.2.1, h.2.2.2.2.2.2.2.1⟩
          clear c3
          go_enter Tryd.func41, Tryd.ntmps41
          go_wp2_with fail
          refine (k0.out _).mono ?_
          rintro e w2 ⟨rfl, rfl⟩
          go_wp2_with fail
          refine (k1.out _).mono ?_
          rintro e w2 ⟨rfl, rfl⟩
          go_wp2_with fail
          refine (k2.out _).mono ?_
          rintro e w2 ⟨rfl, rfl⟩
          go_wp2_with fail
          refine (k3.out _).mono ?_
          rintro e w2 ⟨rfl, rfl⟩
          go_wp2
          go_ret
          rw [hR.out]
          exact ⟨rfl, hb0.out⟩
      · have k2 := Lib.hid (within_is p 1 l false (decide_eq_false c2))
        have hR : Hid (rightM ⟨t, r, f, p, l⟩ = false) := by
          show _ = _
          rw [Bool.eq_false_iff]
          intro hh
          have h := (rightM_iff _).1 hh
          exact c2 ⟨h.2.2.2.2.1, h.2.2.2.2.2.1⟩
        clear c2
        go_enter Tryd.func41, Tryd.ntmps41
        go_wp2_with fail
        refine (k0.out _).mono ?_
        rintro e w2 ⟨rfl, rfl⟩
        go_wp2_with fail
        refine (k1.out _).mono ?_
        rintro e w2 ⟨rfl, rfl⟩
        go_wp2_with fail
        refine (k2.out _).mono ?_
        rintro e w2 ⟨rfl, rfl⟩
        go_wp2
        go_ret
        rw [hR.out]
        exact ⟨rfl, hb0.out⟩
    · have k1 := Lib.hid (within_is l 2 512 false (decide_eq_false c1))
      have hR : Hid (rightM ⟨t, r, f, p, l⟩ = false) := by
        show _ = _
        rw [Bool.eq_false_iff]
        intro hh
        have h := (rightM_iff _).1 hh
        exact c1 ⟨h.2.2.1, h.2.2.2.1⟩
      clear c1
      go_enter Tryd.func41, Tryd.ntmps41
      go_wp2_with fail
      refine (k0.out _).mono ?_
      rintro e w2 ⟨rfl, rfl⟩
      go_wp2_with fail
      refine (k1.out _).mono ?_
      rintro e w2 ⟨rfl, rfl⟩
      go_wp2
      go_ret
      rw [hR.out]
      exact ⟨rfl, hb0.out⟩
  · have k0 := Lib.hid (within_is t 0 1099511627776 false (decide_eq_false c0))
    have hR : Hid (rightM ⟨t, r, f, p, l⟩ = false) := by
      show _ = _
      rw [Bool.eq_false_iff]
      intro hh
      have h := (rightM_iff _).1 hh
      exact c0 ⟨h.1, h.2.1⟩
    clear c0
    go_enter Tryd.func41, Tryd.ntmps41
    go_wp2_with fail
    refine (k0.out _).mono ?_
    rintro e w2 ⟨rfl, rfl⟩
    go_wp2
    go_ret
    rw [hR.out]
    exact ⟨rfl, hb0.out⟩
theorem layL_front (t r f p l : Nat) : layL ⟨#[82, 79, 76, 76, 66, 79, 79, 75]⟩ [(t, 8), (r, 4), (f, 4), (p, 4), (l, 4)] = frontB t r f p l := rfl
theorem cells5 {W : World} {g : Nat} {t : TypeId} {a0 a1 a2 a3 a4 : Value} (h : W.heap[g]? = some (.cells #[a0, a1, a2, a3, a4] t (0, 0))) :
    W.cell? ⟨g, 0, none⟩ = some a0 ∧ W.cell? ⟨g, 1, none⟩ = some a1 ∧ W.cell? ⟨g, 2, none⟩ = some a2 ∧ W.cell? ⟨g, 3, none⟩ = some a3 ∧ W.cell? ⟨g, 4, none⟩ = some a4 :=
  ⟨blk_cell h 0, blk_cell h 1, blk_cell h 2, blk_cell h 3, blk_cell h 4⟩
set_option maxHeartbeats 2000000 in
set_option maxRecDepth 100000 in
theorem packMeta_any (t r f p l : Int) (w : World) (hT : HasTab w) :
    Calls Tryd.prog 39 #[.agg #[.int .i64 t, .int .i64 r, .int .i64 f, .int .i64 p, .int .i64 l]] w fun e w' => e = .returned (.tuple #[.string (packM ⟨t, r, f, p, l⟩).1, .int .i64 (packM ⟨t, r, f, p, l⟩).2]) ∧ Below w.heap.size w w' := by
  have hT' := Lib.hid hT
  have hu46 := Tryd.underlying46
  have hu81 := Tryd.underlying81
  have hB := blk_new w (Obj.cells #[.int .i64 t, .int .i64 r, .int .i64 f, .int .i64 p, .int .i64 l] 46)
  have hb0 := (Below.refl w.heap.size w).alloc (Nat.le_refl _) (Obj.cells #[.int .i64 t, .int .i64 r, .int .i64 f, .int .i64 p, .int .i64 l] 46)
  have hB' := Lib.hid hB
  have hb0' := Lib.hid hb0
  clear hB hb0
  by_cases hR : rightM ⟨t, r, f, p, l⟩ = true
  · obtain ⟨h1, h2, h3, h4, h5, h6, h7, h8, h9, h10⟩ := (rightM_iff _).1 hR
    simp only at h1 h2 h3 h4 h5 h6 h7 h8 h9 h10
    obtain ⟨t, rfl⟩ : ∃ n : Nat, t = n := ⟨t.toNat, by omega⟩
    obtain ⟨r, rfl⟩ : ∃ n : Nat, r = n := ⟨r.toNat, by omega⟩
    obtain ⟨f, rfl⟩ : ∃ n : Nat, f = n := ⟨f.toNat, by omega⟩
    obtain ⟨p, rfl⟩ : ∃ n : Nat, p = n := ⟨p.toNat, by omega⟩
    obtain ⟨l, rfl⟩ : ∃ n : Nat, l = n := ⟨l.toNat, by omega⟩
    have hP : packM ⟨t, r, f, p, l⟩ = (metaB t r f p l, 0) := by unfold packM; rw [if_pos hR]; rfl
    have hra : Hid (∀ v : World, Calls Tryd.prog 41 #[.agg #[.int .i64 (t : Int), .int .i64 (r : Int), .int .i64 (f : Int), .int .i64 (p : Int), .int .i64 (l : Int)]] v fun e w' => e = .returned (.bool true) ∧ Below v.heap.size v w') := by
      intro v
      rw [← hR]
      exact rightMeta_any t r f p l v
    have hl0 : Hid (layL ⟨#[82, 79, 76, 76, 66, 79, 79, 75]⟩ [(t, 8), (r, 4), (f, 4), (p, 4), (l, 4)] = frontB t r f p l) := layL_front t r f p l
    have hmb : metaB t r f p l = frontB t r f p l ++ numB 4 (onN 0 (frontB t r f p l)) ++ zerosB 92 := rfl
    have hsz := frontB_size t r f p l
    obtain ⟨F, hF⟩ : ∃ F, F = frontB t r f p l := ⟨_, rfl⟩
    rw [← hF] at hl0 hmb hsz
    obtain ⟨S, hS⟩ : ∃ S, S = onN 0 F := ⟨_, rfl⟩
    have hslt' : S < 4294967296 := by rw [hS]; exact onN_lt _ _
    have hcrc : Hid (∀ v : World, Below w.heap.size w v → Calls Tryd.prog 24 #[.string F] v fun e w' => e = .returned (.int .u32 (S : Nat)) ∧ v = w') := by
      intro v hv
      rw [hS]
      exact crcSum _ v (by rw [hsz]; decide) (hT'.out.below hv hT'.out.pos)
    rw [← hS] at hmb
    have hfill : Hid (∀ v : World, Calls Tryd.prog 74 #[.string (F ++ numB 4 S), .int .i64 128] v fun e w' => e = .returned (.string (F ++ numB 4 S ++ zerosB 92)) ∧ Below v.heap.size v w') := by
      intro v
      have h := filled_any (F ++ numB 4 S) 128 v (by rw [ByteArray.size_append, numB_size, hsz]; decide) (by decide)
      have e : 128 - (F ++ numB 4 S : ByteArray).size = 92 := by rw [ByteArray.size_append, numB_size, hsz]
      rw [e] at h
      exact h
    have hFs : F.size ≤ 90000 := by rw [hsz]; decide
    rw [hP, hmb]
    clear hR hP hT hmb hF hS hsz
    obtain ⟨c0, c1, c2, c3, c4⟩ := cells5 hB'.out
    go_enter Tryd.func39, Tryd.ntmps39
    go_wp2_with fail
    refine (hra.out _).mono ?_
    rintro e w2 ⟨rfl, hb2⟩
    have hb2' := Lib.hid (hb0'.out.trans (hb2.mono hb0'.out.size))
    have hB2 := Lib.hid (blk_below hB'.out hb2)
    clear c0 c1 c2 c3 c4 hb2
    obtain ⟨c0, c1, c2, c3, c4⟩ := cells5 hB2.out
    go_wp2_with fail
    refine (lay_any ⟨#[82, 79, 76, 76, 66, 79, 79, 75]⟩ [(t, 8), (r, 4), (f, 4), (p, 4), (l, 4)] w2 (by simp; omega) (by simp) (by decide)).mono ?_
    rw [hl0.out]
    rintro e w3 ⟨rfl, hb3⟩
    have hb3' := Lib.hid (hb2'.out.trans (hb3.mono hb2'.out.size))
    clear hb3 hb2' c0 c1 c2 c3 c4 hB2
    go_wp2_with fail
    refine (hcrc.out _ hb3'.out).mono ?_
    rintro e w5 ⟨rfl, rfl⟩
    go_wp2_with fail
    refine (lay_any F [(S, 4)] w3 (by simp; omega) (by simp) (by omega)).mono ?_
    rintro e w6 ⟨rfl, hb6⟩
    have hb6' := Lib.hid (hb3'.out.trans (hb6.mono hb3'.out.size))
    have hl1 : layL F [(S, 4)] = F ++ numB 4 S := rfl
    rw [hl1]
    clear hb6 hb3' hl1
    go_wp2_with fail
    refine (hfill.out _).mono ?_
    rintro e w7 ⟨rfl, hb7⟩
    have hb7' := Lib.hid (hb6'.out.trans (hb7.mono hb6'.out.size))
    clear hb7
    go_wp2
    go_ret2
    exact ⟨rfl, hb7'.out⟩
  · have hRf : rightM ⟨t, r, f, p, l⟩ = false := by simpa using hR
    have hP : packM ⟨t, r, f, p, l⟩ = (⟨#[]⟩, 4) := by unfold packM; rw [if_neg hR]
    have hra : Hid (∀ v : World, Calls Tryd.prog 41 #[.agg #[.int .i64 t, .int .i64 r, .int .i64 f, .int .i64 p, .int .i64 l]] v fun e w' => e = .returned (.bool false) ∧ Below v.heap.size v w') := by
      intro v
      rw [← hRf]
      exact rightMeta_any t r f p l v
    rw [hP]
    clear hR hRf hP hT
    obtain ⟨c0, c1, c2, c3, c4⟩ := cells5 hB'.out
    go_enter Tryd.func39, Tryd.ntmps39
    go_wp2_with fail
    refine (hra.out _).mono ?_
    rintro e w2 ⟨rfl, hb2⟩
    have hb2' := Lib.hid (hb0'.out.trans (hb2.mono hb0'.out.size))
    clear hb2
    go_wp2
    go_ret2
    exact ⟨rfl, hb2'.out⟩
end Go.Proofs.YtcoddeemfdnjpaaDoor.PagePlain
