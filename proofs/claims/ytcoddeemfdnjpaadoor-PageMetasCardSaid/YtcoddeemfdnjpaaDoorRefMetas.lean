/- The plain law of the reference's metas: its printed functions tell what the program's do. -/
import Derived.Test.YtcoddeemfdnjpaaDoorRefPages
import Derived.Test.YtcoddeemfdnjpaaDoorMetaUnpack
import Derived.Test.YtcoddeemfdnjpaaDoorFnMt
namespace Go.Proofs.YtcoddeemfdnjpaaDoor.PagePlain
open Go.RowKit CrcPlain NumPlain FieldPlain
open Go.Proofs.YtcoddeemfdnjpaaDoorW.PrintMore
open Go.Proofs.YtcoddeemfdnjpaaDoorW.PrintWords hiding nums nums_length nums_append
theorem refRightMeta_f (t r f p l : Int) : Fn.rollbookref04_RightMeta.f t r f p l = some (rightM ⟨t, r, f, p, l⟩) := by
  unfold Fn.rollbookref04_RightMeta.f rightM
  simp only
  by_cases c1 : t < 0
  · rw [if_pos c1]; congr 1; exact (decide_eq_false (by omega)).symm
  · by_cases c2 : t > 1099511627776
    · rw [if_neg c1, if_pos c2]; congr 1; exact (decide_eq_false (by omega)).symm
    · by_cases c3 : l < 2
      · rw [if_neg c1, if_neg c2, if_pos c3]; congr 1; exact (decide_eq_false (by omega)).symm
      · by_cases c4 : l > 512
        · rw [if_neg c1, if_neg c2, if_neg c3, if_pos c4]; congr 1; exact (decide_eq_false (by omega)).symm
        · by_cases c5 : p < 1
          · rw [if_neg c1, if_neg c2, if_neg c3, if_neg c4, if_pos c5]; congr 1; exact (decide_eq_false (by omega)).symm
          · by_cases c6 : p > l
            · rw [if_neg c1, if_neg c2, if_neg c3, if_neg c4, if_neg c5, if_pos c6]; congr 1; exact (decide_eq_false (by omega)).symm
            · by_cases c7 : r ≥ 0
              · by_cases c8 : r < p
                · by_cases c9 : f ≥ 0
                  · rw [if_neg c1, if_neg c2, if_neg c3, if_neg c4, if_neg c5, if_neg c6, if_pos c7, if_pos c8, if_pos c9]
                    congr 1
                    rw [decide_eq_decide]
                    omega
                  · rw [if_neg c1, if_neg c2, if_neg c3, if_neg c4, if_neg c5, if_neg c6, if_pos c7, if_pos c8, if_neg c9]; congr 1; exact (decide_eq_false (by omega)).symm
                · rw [if_neg c1, if_neg c2, if_neg c3, if_neg c4, if_neg c5, if_neg c6, if_pos c7, if_neg c8]; congr 1; exact (decide_eq_false (by omega)).symm
              · rw [if_neg c1, if_neg c2, if_neg c3, if_neg c4, if_neg c5, if_neg c6, if_neg c7]; congr 1; exact (decide_eq_false (by omega)).symm
theorem refPackMeta_f (t r f p l : Int) (m : Nat) (hm : 4000 ≤ m) : Fn.rollbookref04_PackMeta.f m t r f p l = some (packM ⟨t, r, f, p, l⟩) := by
  unfold Fn.rollbookref04_PackMeta.f
  rw [refRightMeta_f, Option.bind_some]
  by_cases hR : rightM ⟨t, r, f, p, l⟩ = true
  · obtain ⟨h1, h2, h3, h4, h5, h6, h7, h8, h9, h10⟩ := (rightM_iff _).1 hR
    simp only at h1 h2 h3 h4 h5 h6 h7 h8 h9 h10
    obtain ⟨t, rfl⟩ : ∃ n : Nat, t = n := ⟨t.toNat, by omega⟩
    obtain ⟨r, rfl⟩ : ∃ n : Nat, r = n := ⟨r.toNat, by omega⟩
    obtain ⟨f, rfl⟩ : ∃ n : Nat, f = n := ⟨f.toNat, by omega⟩
    obtain ⟨p, rfl⟩ : ∃ n : Nat, p = n := ⟨p.toNat, by omega⟩
    obtain ⟨l, rfl⟩ : ∃ n : Nat, l = n := ⟨l.toNat, by omega⟩
    have hP : packM ⟨t, r, f, p, l⟩ = (metaB t r f p l, 0) := by unfold packM; rw [if_pos hR]; rfl
    have n1 : Fn.rollbookref04_Number.f m (t : Int) 8 = _ := number_f t 8 m (by decide) (by decide) (by omega) (by omega) (by omega)
    have n2 : Fn.rollbookref04_Number.f m (r : Int) 4 = _ := number_f r 4 m (by decide) (by decide) (by omega) (by omega) (by omega)
    have n3 : Fn.rollbookref04_Number.f m (f : Int) 4 = _ := number_f f 4 m (by decide) (by decide) (by omega) (by omega) (by omega)
    have n4 : Fn.rollbookref04_Number.f m (p : Int) 4 = _ := number_f p 4 m (by decide) (by decide) (by omega) (by omega) (by omega)
    have n5 : Fn.rollbookref04_Number.f m (l : Int) 4 = _ := number_f l 4 m (by decide) (by decide) (by omega) (by omega) (by omega)
    have z1 : Fn.rollbookref04_Noughts.f m 92 = _ := noughts_f 92 m (by decide) (by omega)
    have hsz := frontB_size t r f p l
    have hS := refSum_f (frontB t r f p l) m (by rw [hsz]; decide) (by rw [hsz]; omega)
    have hfr : (⟨#[82, 79, 76, 76, 66, 79, 79, 75]⟩ : ByteArray) ++ numB 8 t ++ numB 4 r ++ numB 4 f ++ numB 4 p ++ numB 4 l = frontB t r f p l := rfl
    have hlt : onN 0 (frontB t r f p l) < 4294967296 := onN_lt _ _
    have hmb : metaB t r f p l = frontB t r f p l ++ numB 4 (onN 0 (frontB t r f p l)) ++ zerosB 92 := rfl
    obtain ⟨S, hSe⟩ : ∃ S, S = onN 0 (frontB t r f p l) := ⟨_, rfl⟩
    rw [← hSe] at hS hlt hmb
    have hws : wrap64 ((S : Nat) : Int) = ((S : Nat) : Int) := by unfold wrap64; omega
    have n6 : Fn.rollbookref04_Number.f m ((S : Nat) : Int) 4 = _ := number_f S 4 m (by decide) (by decide) (by omega) (by omega) (by omega)
    have s0 : (⟨#[82, 79, 76, 76, 66, 79, 79, 75]⟩ : ByteArray).size = 8 := rfl
    rw [hR, if_pos rfl, n1, Option.bind_some, if_pos (by rw [numB_size]; decide), n2, Option.bind_some, if_pos (by simp only [ByteArray.size_append, numB_size, s0]; decide), n3, Option.bind_some,
      if_pos (by simp only [ByteArray.size_append, numB_size, s0]; decide), n4, Option.bind_some, if_pos (by simp only [ByteArray.size_append, numB_size, s0]; decide), n5, Option.bind_some,
      if_pos (by simp only [ByteArray.size_append, numB_size, s0]; decide), hfr, hS, Option.bind_some, hws, n6, Option.bind_some, if_pos (by rw [hsz, numB_size]; decide), z1, Option.bind_some,
      if_pos (by simp only [ByteArray.size_append, numB_size, zerosB_size, hsz]; decide), hP, hmb]
  · rw [if_neg hR]
    unfold packM
    rw [if_neg hR]
def flatM (r : Mt × Int) : Int × Int × Int × Int × Int × Int := (r.1.txn, r.1.root, r.1.free, r.1.pages, r.1.limit, r.2)
theorem refUnpackMeta_f (s : ByteArray) (hs : s.size ≤ 2000) : Fn.rollbookref04_UnpackMeta.f 7000 s = some (flatM (unpackM s)) := by
  unfold Fn.rollbookref04_UnpackMeta.f unpackM
  by_cases c : s.size = 128
  · have t1 := refTake_fk s 8 8 (by omega) 6988
    have t2 := refTake_fk s 16 4 (by omega) 6988
    have t3 := refTake_fk s 20 4 (by omega) 6988
    have t4 := refTake_fk s 24 4 (by omega) 6988
    have t5 := refTake_fk s 28 4 (by omega) 6988
    have u1 : takeF s 8 8 = _ := takeF_ok s 8 8 (by decide) (by decide) (by omega)
    have u2 : takeF s 16 4 = _ := takeF_ok s 16 4 (by decide) (by decide) (by omega)
    have u3 : takeF s 20 4 = _ := takeF_ok s 20 4 (by decide) (by decide) (by omega)
    have u4 : takeF s 24 4 = _ := takeF_ok s 24 4 (by decide) (by decide) (by omega)
    have u5 : takeF s 28 4 = _ := takeF_ok s 28 4 (by decide) (by decide) (by omega)
    rw [u1] at t1
    rw [u2] at t2
    rw [u3] at t3
    rw [u4] at t4
    rw [u5] at t5
    have b2 : takeN s 16 4 < 4294967296 := takeN_lt s 16 4 (by omega)
    have b3 : takeN s 20 4 < 4294967296 := takeN_lt s 20 4 (by omega)
    have b4 : takeN s 24 4 < 4294967296 := takeN_lt s 24 4 (by omega)
    have b5 : takeN s 28 4 < 4294967296 := takeN_lt s 28 4 (by omega)
    rw [if_pos (by omega), t1, Option.bind_some, t2, Option.bind_some, t3, Option.bind_some, t4, Option.bind_some, t5, Option.bind_some]
    simp only
    have hg : getM s = ⟨takeN s 8 8, takeN s 16 4, takeN s 20 4, takeN s 24 4, takeN s 28 4⟩ := rfl
    obtain ⟨f0, hf0⟩ : ∃ n, takeN s 8 8 = n := ⟨_, rfl⟩
    obtain ⟨f1, hf1⟩ : ∃ n, takeN s 16 4 = n := ⟨_, rfl⟩
    obtain ⟨f2, hf2⟩ : ∃ n, takeN s 20 4 = n := ⟨_, rfl⟩
    obtain ⟨f3, hf3⟩ : ∃ n, takeN s 24 4 = n := ⟨_, rfl⟩
    obtain ⟨f4, hf4⟩ : ∃ n, takeN s 28 4 = n := ⟨_, rfl⟩
    rw [hf0] at hg ⊢
    rw [hf1] at b2 hg ⊢
    rw [hf2] at b3 hg ⊢
    rw [hf3] at b4 hg ⊢
    rw [hf4] at b5 hg ⊢
    clear t1 t2 t3 t4 t5 u1 u2 u3 u4 u5 hf0 hf1 hf2 hf3 hf4
    by_cases c2 : f0 ≤ 1099511627776
    · have hw1 : wrap64 (f0 : Int) = (f0 : Int) := by unfold wrap64; omega
      have hw2 : wrap64 (f1 : Int) = (f1 : Int) := by unfold wrap64; omega
      have hw3 : wrap64 (f2 : Int) = (f2 : Int) := by unfold wrap64; omega
      have hw4 : wrap64 (f3 : Int) = (f3 : Int) := by unfold wrap64; omega
      have hw5 : wrap64 (f4 : Int) = (f4 : Int) := by unfold wrap64; omega
      rw [if_neg (by omega), hw1, hw2, hw3, hw4, hw5, refPackMeta_f _ _ _ _ _ 7000 (by decide), Option.bind_some, hg]
      obtain ⟨z1, z2, hz⟩ : ∃ z1 z2, packM ⟨f0, f1, f2, f3, f4⟩ = (z1, z2) := ⟨_, _, rfl⟩
      rw [hz]
      simp only
      by_cases hok : z2 = 0 ∧ z1 = s
      · obtain ⟨rfl, rfl⟩ := hok
        rw [if_pos rfl, if_pos rfl, if_pos ⟨c, c2, rfl⟩]
        rfl
      · rw [if_neg (show ¬ (s.size = 128 ∧ f0 ≤ 1099511627776 ∧ (z1, z2) = (s, (0 : Int))) from fun h => hok (by have h4 := h.2.2; injection h4 with h5 h6; exact ⟨h6, h5⟩))]
        by_cases he : z2 = 0
        · have hne : ¬ z1.toList = s.toList := fun e => by
            have := ne_bytes (x := z1) (s := s) (fun h => hok ⟨he, h⟩)
            rw [e, beq_self_eq_true] at this
            cases this
          rw [if_pos he, if_neg hne]
          rfl
        · rw [if_neg he]
          rfl
    · rw [if_pos (by omega), if_neg (fun h => c2 h.2.1)]
      rfl
  · rw [if_neg (by omega), if_neg (fun h => c h.1)]
    rfl
/-- the newest of two -/
def newM (p q : Mt × Int) : Mt × Int × Int :=
  if p.2 ≠ 0 ∧ q.2 ≠ 0 then (m0, 0, 4) else if p.2 ≠ 0 ∨ (q.2 = 0 ∧ p.1.txn < q.1.txn) then (q.1, 1, 0) else (p.1, 0, 0)
def flatN (r : Mt × Int × Int) : Int × Int × Int × Int × Int × Int × Int := (r.1.txn, r.1.root, r.1.free, r.1.pages, r.1.limit, r.2.1, r.2.2)
theorem refNewest_j (p q : Mt × Int) (k : Nat) (b : Bool) (hb : b = true ↔ p.2 = 0 ∧ q.2 = 0) :
    Fn.rollbookref04_Newest.j0 (k + 1) p.2 q.2 b p.1.txn p.1.root p.1.free p.1.pages p.1.limit q.1.txn q.1.root q.1.free q.1.pages q.1.limit = some (flatN (newM p q)) := by
  obtain ⟨⟨t, r, f, g, l⟩, e⟩ := p
  obtain ⟨⟨t', r', f', g', l'⟩, e'⟩ := q
  rw [Fn.rollbookref04_Newest.j0]
  unfold newM
  simp only at hb ⊢
  by_cases c1 : b = true
  · obtain ⟨rfl, rfl⟩ := hb.1 c1
    rw [if_pos c1]
    by_cases c2 : t' > t
    · rw [if_pos c2, if_neg (by simp), if_pos (Or.inr ⟨rfl, c2⟩)]; rfl
    · rw [if_neg c2, if_neg (by simp), if_neg (by simp; omega)]; rfl
  · have hn : ¬ (e = 0 ∧ e' = 0) := fun h => c1 (hb.2 h)
    rw [if_neg c1]
    by_cases c3 : e = 0
    · have c4 : e' ≠ 0 := fun h => hn ⟨c3, h⟩
      rw [if_pos c3, if_neg (fun h => h.1 c3), if_neg (fun h => h.elim (fun x => x c3) (fun x => c4 x.1))]; rfl
    · rw [if_neg c3]
      by_cases c4 : e' = 0
      · rw [if_pos c4, if_neg (fun h => h.2 c4), if_pos (Or.inl c3)]; rfl
      · rw [if_neg c4, if_pos ⟨c3, c4⟩]; rfl
theorem refNewest_f (a b : ByteArray) (ha : a.size ≤ 2000) (hb : b.size ≤ 2000) : Fn.rollbookref04_Newest.f 7000 a b = some (flatN (newM (unpackM a) (unpackM b))) := by
  unfold Fn.rollbookref04_Newest.f
  rw [refUnpackMeta_f a ha, Option.bind_some, refUnpackMeta_f b hb, Option.bind_some]
  obtain ⟨p, hp⟩ : ∃ p, unpackM a = p := ⟨_, rfl⟩
  obtain ⟨q, hq⟩ : ∃ q, unpackM b = q := ⟨_, rfl⟩
  rw [hp, hq]
  by_cases c : p.2 = 0
  · refine (if_pos c).trans ?_
    exact refNewest_j p q 6999 (q.2 == 0) (by simp [c])
  · refine (if_neg c).trans ?_
    exact refNewest_j p q 6999 false (by simp [c])
theorem refRightMeta_any (t r f p l : Int) (w : World) :
    Calls Tryd.prog 42 #[.agg #[.int .i64 t, .int .i64 r, .int .i64 f, .int .i64 p, .int .i64 l]] w fun e w' => e = .returned (.bool (rightM ⟨t, r, f, p, l⟩)) ∧ Below w.heap.size w w' :=
  Fn.rollbookref04_RightMeta.calls t r f p l _ w (refRightMeta_f t r f p l)
theorem refPackMeta_any (t r f p l : Int) (w : World) :
    Calls Tryd.prog 40 #[.agg #[.int .i64 t, .int .i64 r, .int .i64 f, .int .i64 p, .int .i64 l]] w fun e w' => e = .returned (.tuple #[.string (packM ⟨t, r, f, p, l⟩).1, .int .i64 (packM ⟨t, r, f, p, l⟩).2]) ∧ Below w.heap.size w w' :=
  Fn.rollbookref04_PackMeta.calls 4000 t r f p l _ _ w (refPackMeta_f t r f p l 4000 (by decide))
theorem refUnpackMeta_any (s : ByteArray) (w : World) (hs : s.size ≤ 2000) :
    Calls Tryd.prog 38 #[.string s] w fun e w' => e = .returned (.tuple #[mtV (unpackM s).1, .int .i64 (unpackM s).2]) ∧ Below w.heap.size w w' :=
  Fn.rollbookref04_UnpackMeta.calls 7000 s _ _ _ _ _ _ w (refUnpackMeta_f s hs)
theorem refNewest_any (a b : ByteArray) (w : World) (ha : a.size ≤ 2000) (hb : b.size ≤ 2000) :
    Calls Tryd.prog 44 #[.string a, .string b] w fun e w' => e = .returned (.tuple #[mtV (newM (unpackM a) (unpackM b)).1, .int .i64 (newM (unpackM a) (unpackM b)).2.1, .int .i64 (newM (unpackM a) (unpackM b)).2.2]) ∧ Below w.heap.size w w' :=
  Fn.rollbookref04_Newest.calls 7000 a b _ _ _ _ _ _ _ w (refNewest_f a b ha hb)
end Go.Proofs.YtcoddeemfdnjpaaDoor.PagePlain
