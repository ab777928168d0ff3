/- The plain law of metas: their bytes, and what is read from bytes. -/
import Derived.Test.YtcoddeemfdnjpaaDoorPagePlain
namespace Go.Proofs.YtcoddeemfdnjpaaDoor.PagePlain
open Go.RowKit CrcPlain NumPlain FieldPlain
open Go.Proofs.YtcoddeemfdnjpaaDoorW.PrintMore
open Go.Proofs.YtcoddeemfdnjpaaDoorW.PrintWords hiding nums nums_length nums_append
/-- a meta -/
structure Mt where
  txn : Int
  root : Int
  free : Int
  pages : Int
  limit : Int
def m0 : Mt := ⟨0, 0, 0, 0, 0⟩
/-- may a meta be? -/
def rightM (m : Mt) : Bool := decide (0 ≤ m.txn ∧ m.txn ≤ 1099511627776 ∧ 2 ≤ m.limit ∧ m.limit ≤ 512 ∧ 1 ≤ m.pages ∧ m.pages ≤ m.limit ∧ 0 ≤ m.root ∧ m.root ≤ m.pages - 1 ∧ 0 ≤ m.free ∧ m.free ≤ m.pages - 1)
theorem rightM_iff (m : Mt) : rightM m = true ↔ 0 ≤ m.txn ∧ m.txn ≤ 1099511627776 ∧ 2 ≤ m.limit ∧ m.limit ≤ 512 ∧ 1 ≤ m.pages ∧ m.pages ≤ m.limit ∧ 0 ≤ m.root ∧ m.root ≤ m.pages - 1 ∧ 0 ≤ m.free ∧ m.free ≤ m.pages - 1 := by
  unfold rightM; rw [decide_eq_true_iff]
def frontB (t r f p l : Nat) : ByteArray := ⟨#[82, 79, 76, 76, 66, 79, 79, 75]⟩ ++ numB 8 t ++ numB 4 r ++ numB 4 f ++ numB 4 p ++ numB 4 l
def metaB (t r f p l : Nat) : ByteArray := frontB t r f p l ++ numB 4 (onN 0 (frontB t r f p l)) ++ zerosB 92
theorem frontB_size (t r f p l : Nat) : (frontB t r f p l).size = 32 := by simp only [frontB, ByteArray.size_append, numB_size]; rfl
theorem metaB_size (t r f p l : Nat) : (metaB t r f p l).size = 128 := by simp only [metaB, ByteArray.size_append, frontB_size, numB_size, zerosB_size]
def markL : List Nat := [82, 79, 76, 76, 66, 79, 79, 75]
theorem nums_frontB (t r f p l : Nat) : nums (frontB t r f p l) = markL ++ (numL 8 t ++ (numL 4 r ++ (numL 4 f ++ (numL 4 p ++ numL 4 l)))) := by
  simp only [frontB, CrcPlain.nums_append, nums_numB, List.append_assoc]
  rfl
theorem nums_metaB (t r f p l : Nat) : nums (metaB t r f p l) = markL ++ (numL 8 t ++ (numL 4 r ++ (numL 4 f ++ (numL 4 p ++ (numL 4 l ++ (numL 4 (onN 0 (frontB t r f p l)) ++ List.replicate 92 0)))))) := by
  simp only [metaB, CrcPlain.nums_append, nums_frontB, nums_numB, nums_zerosB, List.append_assoc]
def packM (m : Mt) : ByteArray × Int := if rightM m = true then (metaB m.txn.toNat m.root.toNat m.free.toNat m.pages.toNat m.limit.toNat, 0) else (⟨#[]⟩, 4)
def getM (s : ByteArray) : Mt := ⟨takeN s 8 8, takeN s 16 4, takeN s 20 4, takeN s 24 4, takeN s 28 4⟩
/-- what a call of UnpackMeta tells -/
def unpackM (s : ByteArray) : Mt × Int :=
  if s.size = 128 ∧ takeN s 8 8 ≤ 1099511627776 ∧ packM (getM s) = (s, 0) then (getM s, 0) else (m0, 4)
theorem packM_ok (m : Mt) (s : ByteArray) (h : packM m = (s, 0)) : rightM m = true ∧ s = metaB m.txn.toNat m.root.toNat m.free.toNat m.pages.toNat m.limit.toNat := by
  unfold packM at h
  by_cases c : rightM m = true
  · rw [if_pos c] at h
    exact ⟨c, (congrArg Prod.fst h).symm⟩
  · rw [if_neg c] at h
    have := congrArg Prod.snd h
    simp at this
theorem get_packM (m : Mt) (s : ByteArray) (h : packM m = (s, 0)) : s.size = 128 ∧ takeN s 8 8 ≤ 1099511627776 ∧ getM s = m ∧ (nums s).take 8 = markL := by
  obtain ⟨hr, rfl⟩ := packM_ok m s h
  obtain ⟨h1, h2, h3, h4, h5, h6, h7, h8, h9, h10⟩ := (rightM_iff m).1 hr
  cases m with | mk t r f p l =>
  simp only at *
  obtain ⟨t, rfl⟩ : ∃ n : Nat, t = n := ⟨t.toNat, by omega⟩
  obtain ⟨r, rfl⟩ : ∃ n : Nat, r = n := ⟨r.toNat, by omega⟩
  obtain ⟨f, rfl⟩ : ∃ n : Nat, f = n := ⟨f.toNat, by omega⟩
  obtain ⟨p, rfl⟩ : ∃ n : Nat, p = n := ⟨p.toNat, by omega⟩
  obtain ⟨l, rfl⟩ : ∃ n : Nat, l = n := ⟨l.toNat, by omega⟩
  simp only [Int.toNat_natCast]
  have e1 : takeN (metaB t r f p l) 8 8 = t := take_mid _ markL _ 8 t 8 (nums_metaB t r f p l) rfl (by omega)
  have e2 : takeN (metaB t r f p l) 16 4 = r := take_mid _ (markL ++ numL 8 t) _ 4 r 16 (by rw [nums_metaB]; simp only [List.append_assoc]; rfl) (by simp [numL_length, markL]) (by omega)
  have e3 : takeN (metaB t r f p l) 20 4 = f := take_mid _ (markL ++ (numL 8 t ++ numL 4 r)) _ 4 f 20 (by rw [nums_metaB]; simp only [List.append_assoc]; rfl) (by simp [numL_length, markL]) (by omega)
  have e4 : takeN (metaB t r f p l) 24 4 = p := take_mid _ (markL ++ (numL 8 t ++ (numL 4 r ++ numL 4 f))) _ 4 p 24 (by rw [nums_metaB]; simp only [List.append_assoc]; rfl) (by simp [numL_length, markL]) (by omega)
  have e5 : takeN (metaB t r f p l) 28 4 = l := take_mid _ (markL ++ (numL 8 t ++ (numL 4 r ++ (numL 4 f ++ numL 4 p)))) _ 4 l 28 (by rw [nums_metaB]; simp only [List.append_assoc]; rfl) (by simp [numL_length, markL]) (by omega)
  refine ⟨metaB_size _ _ _ _ _, by omega, ?_, by rw [nums_metaB]; rfl⟩
  unfold getM
  rw [e1, e2, e3, e4, e5]
theorem unpack_packM (m : Mt) (s : ByteArray) (h : packM m = (s, 0)) : unpackM s = (m, 0) := by
  obtain ⟨h1, h2, h3, _⟩ := get_packM m s h
  unfold unpackM
  rw [h3, if_pos ⟨h1, h2, h⟩]
theorem unpackM_none (s : ByteArray) (h : ∀ m, packM m ≠ (s, 0)) : unpackM s = (m0, 4) := by
  unfold unpackM
  rw [if_neg (fun hc => h _ hc.2.2)]
end Go.Proofs.YtcoddeemfdnjpaaDoor.PagePlain
