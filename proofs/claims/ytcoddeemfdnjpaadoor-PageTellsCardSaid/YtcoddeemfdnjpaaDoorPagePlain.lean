/- The plain law of pages: their bytes, and what is read from bytes. -/
import Derived.Test.YtcoddeemfdnjpaaDoorFieldPlain
import Derived.Test.YtcoddeemfdnjpaaDoorCrcTurn
namespace Go.Proofs.YtcoddeemfdnjpaaDoor.PagePlain
open Go.RowKit CrcPlain NumPlain FieldPlain
open Go.Proofs.YtcoddeemfdnjpaaDoorW.PrintMore
open Go.Proofs.YtcoddeemfdnjpaaDoorW.PrintWords hiding nums nums_length nums_append
/-- a number in so many bytes -/
def numB (z n : Nat) : ByteArray := strOfNums (ints (numL z n))
theorem numB_size (z n : Nat) : (numB z n).size = z := by rw [numB, strOfNums_size, ints_length, numL_length]
theorem nums_numB (z n : Nat) : nums (numB z n) = numL z n := by
  unfold numB nums ints
  rw [strOfNums_data, List.map_map, List.map_map]
  conv => rhs; rw [← List.map_id (numL z n)]
  apply List.map_congr_left
  intro c hc
  have := numL_lt z n c hc
  simp [Nat.mod_eq_of_lt this]
def zerosB (n : Nat) : ByteArray := ⟨(List.replicate n (0 : UInt8)).toArray⟩
theorem zerosB_size (n : Nat) : (zerosB n).size = n := by show Array.size _ = _; simp
theorem nums_zerosB (n : Nat) : nums (zerosB n) = List.replicate n 0 := by simp [nums, zerosB]
theorem nums_inj {a b : ByteArray} (h : nums a = nums b) : a = b := by
  cases a; cases b
  simp only [nums] at h
  simp only [ByteArray.mk.injEq]
  exact Array.toList_inj.1 (List.map_inj_right (fun _ _ e => UInt8.toNat.inj e) |>.1 h)
theorem nums_ext (s : ByteArray) (a n : Nat) : nums (s.extract a (a + n)) = ((nums s).drop a).take n := by
  rw [nums_extract, List.drop_take]
  congr 1
  omega
theorem mid (A B C : List Nat) (a n : Nat) (ha : A.length = a) (hb : B.length = n) : ((A ++ (B ++ C)).drop a).take n = B := by
  rw [List.drop_left' ha, List.take_left' hb]
theorem take_mid (s : ByteArray) (A C : List Nat) (z n a : Nat) (h : nums s = A ++ (numL z n ++ C)) (ha : A.length = a) (hn : n < 256 ^ z) : takeN s a z = n := by
  unfold takeN
  rw [nums_ext, h, mid A (numL z n) C a z ha (numL_length z n), valN_numL z n hn]
/-- may a page be? -/
def rightF (k no txn : Int) (body : ByteArray) : Bool := decide (1 ≤ k ∧ k ≤ 4 ∧ 1 ≤ no ∧ no < 512 ∧ 0 ≤ txn ∧ txn ≤ 1099511627776 ∧ body.size ≤ 488)
def headB (k no txn : Nat) (body : ByteArray) : ByteArray := ⟨#[82, 66]⟩ ++ numB 1 k ++ numB 1 0 ++ numB 2 body.size ++ numB 4 no ++ numB 8 txn
def tailB (body : ByteArray) : ByteArray := ⟨#[0, 0]⟩ ++ body ++ zerosB (488 - body.size)
def sumB (k no txn : Nat) (body : ByteArray) : Nat := onN 0 (headB k no txn body ++ ⟨#[0, 0, 0, 0]⟩ ++ tailB body)
def packB (k no txn : Nat) (body : ByteArray) : ByteArray := headB k no txn body ++ numB 4 (sumB k no txn body) ++ tailB body
/-- what a call of Pack tells -/
def packF (k no txn : Int) (body : ByteArray) : ByteArray × Int := if rightF k no txn body = true then (packB k.toNat no.toNat txn.toNat body, 0) else (⟨#[]⟩, 4)
theorem headB_size (k no txn : Nat) (body : ByteArray) : (headB k no txn body).size = 18 := by simp only [headB, ByteArray.size_append, numB_size]; rfl
theorem tailB_size (body : ByteArray) (h : body.size ≤ 488) : (tailB body).size = 490 := by
  simp only [tailB, ByteArray.size_append, zerosB_size]
  have : (⟨#[0, 0]⟩ : ByteArray).size = 2 := rfl
  omega
theorem packB_size (k no txn : Nat) (body : ByteArray) (h : body.size ≤ 488) : (packB k no txn body).size = 512 := by
  simp only [packB, ByteArray.size_append, headB_size, numB_size, tailB_size body h]
theorem nums_headB (k no txn : Nat) (body : ByteArray) : nums (headB k no txn body) = [82, 66] ++ (numL 1 k ++ ([0] ++ (numL 2 body.size ++ (numL 4 no ++ numL 8 txn)))) := by
  simp only [headB, CrcPlain.nums_append, nums_numB, List.append_assoc]
  rfl
theorem nums_tailB (body : ByteArray) : nums (tailB body) = [0, 0] ++ (nums body ++ List.replicate (488 - body.size) 0) := by
  simp only [tailB, CrcPlain.nums_append, nums_zerosB, List.append_assoc]
  rfl
theorem nums_packB (k no txn : Nat) (body : ByteArray) : nums (packB k no txn body) =
    [82, 66] ++ (numL 1 k ++ ([0] ++ (numL 2 body.size ++ (numL 4 no ++ (numL 8 txn ++ (numL 4 (sumB k no txn body) ++ ([0, 0] ++ (nums body ++ List.replicate (488 - body.size) 0)))))))) := by
  simp only [packB, CrcPlain.nums_append, nums_headB, nums_tailB, nums_numB, List.append_assoc]
theorem pack_kind (k no txn : Nat) (body : ByteArray) (h : k < 256) : takeN (packB k no txn body) 2 1 = k :=
  take_mid _ [82, 66] _ 1 k 2 (nums_packB k no txn body) rfl (by omega)
theorem pack_len (k no txn : Nat) (body : ByteArray) (h : body.size ≤ 488) : takeN (packB k no txn body) 4 2 = body.size :=
  take_mid _ ([82, 66] ++ (numL 1 k ++ [0])) _ 2 body.size 4 (by rw [nums_packB]; simp only [List.append_assoc]; rfl) (by simp [numL_length]) (by omega)
theorem pack_no (k no txn : Nat) (body : ByteArray) (h : no < 512) : takeN (packB k no txn body) 6 4 = no :=
  take_mid _ ([82, 66] ++ (numL 1 k ++ ([0] ++ numL 2 body.size))) _ 4 no 6 (by rw [nums_packB]; simp only [List.append_assoc]; rfl) (by simp [numL_length]) (by omega)
theorem pack_txn (k no txn : Nat) (body : ByteArray) (h : txn ≤ 1099511627776) : takeN (packB k no txn body) 10 8 = txn :=
  take_mid _ ([82, 66] ++ (numL 1 k ++ ([0] ++ (numL 2 body.size ++ numL 4 no)))) _ 8 txn 10 (by rw [nums_packB]; simp only [List.append_assoc]; rfl) (by simp [numL_length]) (by omega)
theorem pack_body (k no txn : Nat) (body : ByteArray) : (packB k no txn body).extract 24 (24 + body.size) = body := by
  apply nums_inj
  rw [nums_ext, nums_packB]
  have e : [82, 66] ++ (numL 1 k ++ ([0] ++ (numL 2 body.size ++ (numL 4 no ++ (numL 8 txn ++ (numL 4 (sumB k no txn body) ++ ([0, 0] ++ (nums body ++ List.replicate (488 - body.size) 0)))))))) =
      ([82, 66] ++ (numL 1 k ++ ([0] ++ (numL 2 body.size ++ (numL 4 no ++ (numL 8 txn ++ (numL 4 (sumB k no txn body) ++ [0, 0]))))))) ++ (nums body ++ List.replicate (488 - body.size) 0) := by simp only [List.append_assoc]
  rw [e]
  exact mid _ _ _ 24 body.size (by simp [numL_length]) (CrcPlain.nums_length body)
theorem pack_prefix (k no txn : Nat) (body : ByteArray) : (nums (packB k no txn body)).take 2 = [82, 66] := by
  rw [nums_packB]; rfl
/-- a page -/
structure Pg where
  kind : Int
  no : Int
  txn : Int
  body : ByteArray
def z0 : Pg := ⟨0, 0, 0, ⟨#[]⟩⟩
def packP (p : Pg) : ByteArray × Int := packF p.kind p.no p.txn p.body
def getP (s : ByteArray) : Pg := ⟨takeN s 2 1, takeN s 6 4, takeN s 10 8, s.extract 24 (24 + takeN s 4 2)⟩
/-- what a call of Unpack tells -/
def unpackF (s : ByteArray) : Pg × Int :=
  if s.size = 512 ∧ takeN s 4 2 ≤ 488 ∧ takeN s 10 8 ≤ 1099511627776 ∧ packP (getP s) = (s, 0) then (getP s, 0) else (z0, 4)
theorem packP_ok (p : Pg) (s : ByteArray) (h : packP p = (s, 0)) : rightF p.kind p.no p.txn p.body = true ∧ s = packB p.kind.toNat p.no.toNat p.txn.toNat p.body := by
  unfold packP packF at h
  by_cases c : rightF p.kind p.no p.txn p.body = true
  · rw [if_pos c] at h
    exact ⟨c, (congrArg Prod.fst h).symm⟩
  · rw [if_neg c] at h
    have := congrArg Prod.snd h
    simp at this
theorem right_iff (k no txn : Int) (body : ByteArray) : rightF k no txn body = true ↔ 1 ≤ k ∧ k ≤ 4 ∧ 1 ≤ no ∧ no < 512 ∧ 0 ≤ txn ∧ txn ≤ 1099511627776 ∧ body.size ≤ 488 := by
  unfold rightF; rw [decide_eq_true_iff]
/-- THE LAW: a page that may be is read from its bytes as it was -/
theorem get_pack (p : Pg) (s : ByteArray) (h : packP p = (s, 0)) : s.size = 512 ∧ takeN s 4 2 = p.body.size ∧ takeN s 4 2 ≤ 488 ∧ takeN s 10 8 ≤ 1099511627776 ∧ getP s = p ∧ (nums s).take 2 = [82, 66] := by
  obtain ⟨hr, rfl⟩ := packP_ok p s h
  obtain ⟨h1, h2, h3, h4, h5, h6, h7⟩ := (right_iff _ _ _ _).1 hr
  have e1 := pack_kind p.kind.toNat p.no.toNat p.txn.toNat p.body (by omega)
  have e2 := pack_len p.kind.toNat p.no.toNat p.txn.toNat p.body h7
  have e3 := pack_no p.kind.toNat p.no.toNat p.txn.toNat p.body (by omega)
  have e4 := pack_txn p.kind.toNat p.no.toNat p.txn.toNat p.body (by omega)
  refine ⟨packB_size _ _ _ _ h7, e2, by omega, by omega, ?_, pack_prefix _ _ _ _⟩
  unfold getP
  rw [e1, e2, e3, e4, pack_body]
  cases p
  simp only [Pg.mk.injEq, and_true] at *
  omega
theorem unpack_pack (p : Pg) (s : ByteArray) (h : packP p = (s, 0)) : unpackF s = (p, 0) := by
  obtain ⟨h1, h2, h3, h4, h5, _⟩ := get_pack p s h
  unfold unpackF
  rw [h5, if_pos ⟨h1, h3, h4, h⟩]
theorem unpack_none (s : ByteArray) (h : ∀ p, packP p ≠ (s, 0)) : unpackF s = (z0, 4) := by
  unfold unpackF
  rw [if_neg (fun hc => h _ hc.2.2.2)]
end Go.Proofs.YtcoddeemfdnjpaaDoor.PagePlain
