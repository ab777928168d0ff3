/- The plain law of turned pages and metas: of which one to four neighbouring bytes were turned, all of them the sum's or none of them, are none's. -/
import Derived.Test.YtcoddeemfdnjpaaDoorMetaPlain
import Derived.Test.YtcoddeemfdnjpaaDoorCrcTurn
namespace Go.Proofs.YtcoddeemfdnjpaaDoor.PagePlain
open Go.RowKit CrcPlain NumPlain FieldPlain
def onL (l : List Nat) : Nat := 4294967295 - reg 4294967295 l
theorem onN_onL (s : ByteArray) : onN 0 s = onL (nums s) := rfl
/-- is a byte turned, and is it the sum's? -/
def nzB (b k : Nat) : Bool := decide (b / 2 ^ (8 * k) % 256 ≠ 0)
def inB (a sum k : Nat) : Bool := decide (sum ≤ a + k ∧ a + k < sum + 4)
/-- are some of the bytes that are turned the sum's, and others not? -/
def mixB (a b sum : Nat) : Bool :=
  (((nzB b 0 && inB a sum 0) || (nzB b 1 && inB a sum 1)) || (nzB b 2 && inB a sum 2)) || (nzB b 3 && inB a sum 3)
def outB (a b sum : Nat) : Bool :=
  (((nzB b 0 && !inB a sum 0) || (nzB b 1 && !inB a sum 1)) || (nzB b 2 && !inB a sum 2)) || (nzB b 3 && !inB a sum 3)
theorem mix_out (a b sum : Nat) (h : mixB a b sum = false) : ∀ k, k < 4 → b / 2 ^ (8 * k) % 256 ≠ 0 → ¬ (sum ≤ a + k ∧ a + k < sum + 4) := by
  unfold mixB nzB inB at h
  simp only [Bool.or_eq_false_iff, Bool.and_eq_false_iff, decide_eq_false_iff_not] at h
  intro k hk hn
  match k, hk with
  | 0, _ => exact h.1.1.1.resolve_left (fun e => e hn)
  | 1, _ => exact h.1.1.2.resolve_left (fun e => e hn)
  | 2, _ => exact h.1.2.resolve_left (fun e => e hn)
  | 3, _ => exact h.2.resolve_left (fun e => e hn)
theorem mix_in (a b sum : Nat) (h : outB a b sum = false) : ∀ k, k < 4 → b / 2 ^ (8 * k) % 256 ≠ 0 → sum ≤ a + k ∧ a + k < sum + 4 := by
  unfold outB nzB inB at h
  simp only [Bool.or_eq_false_iff, Bool.and_eq_false_iff, decide_eq_false_iff_not, Bool.not_eq_eq_eq_not, Bool.not_false, decide_eq_true_eq] at h
  intro k hk hn
  match k, hk with
  | 0, _ => exact h.1.1.1.resolve_left (fun e => e hn)
  | 1, _ => exact h.1.1.2.resolve_left (fun e => e hn)
  | 2, _ => exact h.1.2.resolve_left (fun e => e hn)
  | 3, _ => exact h.2.resolve_left (fun e => e hn)
theorem delta_at (n a b j : Nat) (h : a + 4 ≤ n) (hj : j < n) : (delta n a b)[j]? = some (if a ≤ j ∧ j < a + 4 then b / 2 ^ (8 * (j - a)) % 256 else 0) := by
  unfold delta
  by_cases c : j < a
  · rw [if_neg (by omega), List.getElem?_append_left (by simpa using c), List.getElem?_replicate, if_pos c]
  · rw [List.getElem?_append_right (by simp; omega)]
    simp only [List.length_replicate]
    by_cases c2 : j < a + 4
    · rw [if_pos ⟨by omega, c2⟩]
      obtain ⟨i, rfl⟩ : ∃ i, j = a + i := ⟨j - a, by omega⟩
      have hi : i < 4 := by omega
      rw [show a + i - a = i by omega]
      match i, hi with
      | 0, _ => simp
      | 1, _ => simp
      | 2, _ => simp
      | 3, _ => simp
    · rw [if_neg (by omega), List.getElem?_append_right (by simp; omega)]
      simp only [List.length_cons, List.length_nil]
      rw [List.getElem?_replicate, if_pos (by omega)]
/-- a piece of which no byte was turned -/
theorem delta_zeros (n a b i m : Nat) (h : a + 4 ≤ n) (hm : i + m ≤ n) (hz : ∀ k, k < 4 → i ≤ a + k → a + k < i + m → b / 2 ^ (8 * k) % 256 = 0) : ((delta n a b).drop i).take m = List.replicate m 0 := by
  apply List.ext_getElem?
  intro j
  rw [List.getElem?_take, List.getElem?_replicate]
  by_cases hj : j < m
  · rw [if_pos hj, if_pos hj, List.getElem?_drop, delta_at n a b _ h (by omega)]
    congr 1
    by_cases c : a ≤ i + j ∧ i + j < a + 4
    · rw [if_pos c]
      exact hz (i + j - a) (by omega) (by omega) (by omega)
    · rw [if_neg c]
  · rw [if_neg hj, if_neg hj]
theorem delta_zeros' (n a b i m : Nat) (h : a + 4 ≤ n) (hm : i + m ≤ n) (hz : ((delta n a b).drop i).take m = List.replicate m 0) : ∀ k, k < 4 → i ≤ a + k → a + k < i + m → b / 2 ^ (8 * k) % 256 = 0 := by
  intro k hk h1 h2
  have e := congrArg (fun l => l[a + k - i]?) hz
  rw [List.getElem?_take, if_pos (by omega), List.getElem?_drop, List.getElem?_replicate, if_pos (by omega), delta_at n a b _ h (by omega), if_pos (by omega)] at e
  injection e with e
  rw [← e]
  congr 3
  omega
theorem four_zero (b : Nat) (hb : b < 4294967296) (h : ∀ k, k < 4 → b / 2 ^ (8 * k) % 256 = 0) : b = 0 := by
  have h0 := h 0 (by decide)
  have h1 := h 1 (by decide)
  have h2 := h 2 (by decide)
  have h3 := h 3 (by decide)
  simp at h0 h1 h2 h3
  omega
theorem zip_zeros : ∀ (l : List Nat) (n : Nat), l.length = n → List.zipWith (· ^^^ ·) l (List.replicate n 0) = l
  | [], n, _ => by simp
  | a :: l, n + 1, h => by
    rw [List.replicate_succ, List.zipWith_cons_cons, zip_zeros l n (by simpa using h), Nat.xor_zero]
theorem zip_same : ∀ (l d : List Nat), l.length = d.length → List.zipWith (· ^^^ ·) l d = l → d = List.replicate d.length 0
  | [], [], _, _ => rfl
  | a :: l, x :: d, h, e => by
    rw [List.zipWith_cons_cons] at e
    injection e with e1 e2
    rw [List.length_cons, List.replicate_succ, ← zip_same l d (by simpa using h) e2, (xor_self_iff a x).1 e1]
theorem delta_lt (n a b : Nat) : ∀ c ∈ delta n a b, c < 256 := by
  intro c hc
  unfold delta at hc
  simp only [List.mem_append, List.mem_replicate, List.mem_cons, List.not_mem_nil, or_false] at hc
  omega
theorem reg_zip_same (l d : List Nat) (hlen : l.length = d.length) (hl : ∀ c ∈ l, c < 256) (hd : ∀ c ∈ d, c < 256) (h : onL (List.zipWith (· ^^^ ·) l d) = onL l) : reg 0 d = 0 := by
  have hz := reg_zip l d 4294967295 0 hlen
  rw [Nat.xor_zero] at hz
  have h1 := reg_lt l 4294967295 (by decide) hl
  have h2 := reg_lt d 0 (by decide) hd
  have h3 : reg 4294967295 l ^^^ reg 0 d < 4294967296 := Nat.xor_lt_two_pow (n := 32) h1 h2
  unfold onL at h
  rw [hz] at h
  exact (xor_self_iff (reg 4294967295 l) (reg 0 d)).1 (by omega)
theorem numL_inj (z x y : Nat) (hx : x < 256 ^ z) (hy : y < 256 ^ z) (h : numL z x = numL z y) : x = y := by
  rw [← valN_numL z x hx, ← valN_numL z y hy, h]
theorem onL_lt (l : List Nat) : onL l < 4294967296 := by unfold onL; omega
/-- three pieces of a list -/
theorem cut3 (l : List Nat) (i m : Nat) : l = l.take i ++ ((l.drop i).take m ++ (l.drop i).drop m) := by rw [List.take_append_drop, List.take_append_drop]
theorem zip3 (A B C : List Nat) (D : List Nat) (i m : Nat) (hA : A.length = i) (hB : B.length = m) (hD : D.length = i + m + C.length) :
    List.zipWith (· ^^^ ·) (A ++ (B ++ C)) D = List.zipWith (· ^^^ ·) A (D.take i) ++ (List.zipWith (· ^^^ ·) B ((D.drop i).take m) ++ List.zipWith (· ^^^ ·) C ((D.drop i).drop m)) := by
  have e := cut3 D i m
  rw [e, List.zipWith_append (by simp; omega), List.zipWith_append (by simp; omega), ← e]
theorem app3 {A B C A' B' C' : List Nat} (h : A ++ (B ++ C) = A' ++ (B' ++ C')) (hA : A.length = A'.length) (hB : B.length = B'.length) : A = A' ∧ B = B' ∧ C = C' := by
  obtain ⟨h1, h2⟩ := List.append_inj h hA
  obtain ⟨h3, h4⟩ := List.append_inj h2 hB
  exact ⟨h1, h3, h4⟩
theorem delta_all (n a b i m : Nat) (hb : b < 4294967296) (h1 : (delta n a b).take i = List.replicate i 0) (h2 : ((delta n a b).drop i).take m = List.replicate m 0) (h3 : ((delta n a b).drop i).drop m = List.replicate (n - i - m) 0) : b = 0 := by
  apply (reg_delta n a b hb).1
  rw [cut3 (delta n a b) i m, h1, h2, h3, reg_append, reg_append, reg_zeros, reg_zeros, reg_zeros]
theorem nums_four : nums (⟨#[0, 0, 0, 0]⟩ : ByteArray) = List.replicate 4 0 := rfl
/-- THE LAW: a page's bytes that were turned are none's -/
theorem page_tells (p : Pg) (s : ByteArray) (hp : packP p = (s, 0)) (a b : Nat) (ha : a + 4 ≤ 512) (hb : b < 4294967296) (h0 : b ≠ 0) (hm : mixB a b 18 = false ∨ outB a b 18 = false) :
    unpackF (turned s a b 4) = (z0, 4) := by
  apply unpack_none
  intro p' hp'
  obtain ⟨hr, hs⟩ := packP_ok p s hp
  obtain ⟨hr', hs'⟩ := packP_ok p' _ hp'
  have hsz : s.size = 512 := (get_pack p s hp).1
  have hz := turned_zip s a b (by omega)
  have hbody := ((right_iff _ _ _ _).1 hr).2.2.2.2.2.2
  have hbody' := ((right_iff _ _ _ _).1 hr').2.2.2.2.2.2
  rw [hsz] at hz
  have e1 : nums s = nums (headB p.kind.toNat p.no.toNat p.txn.toNat p.body) ++ (numL 4 (sumB p.kind.toNat p.no.toNat p.txn.toNat p.body) ++ nums (tailB p.body)) := by
    rw [hs]; unfold packB; rw [CrcPlain.nums_append, CrcPlain.nums_append, nums_numB, List.append_assoc]
  have e2 : nums (turned s a b 4) = nums (headB p'.kind.toNat p'.no.toNat p'.txn.toNat p'.body) ++ (numL 4 (sumB p'.kind.toNat p'.no.toNat p'.txn.toNat p'.body) ++ nums (tailB p'.body)) := by
    rw [hs']; unfold packB; rw [CrcPlain.nums_append, CrcPlain.nums_append, nums_numB, List.append_assoc]
  have q1 : sumB p.kind.toNat p.no.toNat p.txn.toNat p.body = onL (nums (headB p.kind.toNat p.no.toNat p.txn.toNat p.body) ++ (List.replicate 4 0 ++ nums (tailB p.body))) := by
    unfold sumB; rw [onN_onL, CrcPlain.nums_append, CrcPlain.nums_append, nums_four, List.append_assoc]
  have q2 : sumB p'.kind.toNat p'.no.toNat p'.txn.toNat p'.body = onL (nums (headB p'.kind.toNat p'.no.toNat p'.txn.toNat p'.body) ++ (List.replicate 4 0 ++ nums (tailB p'.body))) := by
    unfold sumB; rw [onN_onL, CrcPlain.nums_append, CrcPlain.nums_append, nums_four, List.append_assoc]
  have l1 : (nums (headB p.kind.toNat p.no.toNat p.txn.toNat p.body)).length = 18 := by rw [nums_length, headB_size]
  have l2 : (nums (headB p'.kind.toNat p'.no.toNat p'.txn.toNat p'.body)).length = 18 := by rw [nums_length, headB_size]
  have t1 : (nums (tailB p.body)).length = 490 := by rw [nums_length, tailB_size _ hbody]
  have t2 : (nums (tailB p'.body)).length = 490 := by rw [nums_length, tailB_size _ hbody']
  have b1 := nums_lt (headB p.kind.toNat p.no.toNat p.txn.toNat p.body)
  have b2 := nums_lt (tailB p.body)
  generalize nums (headB p.kind.toNat p.no.toNat p.txn.toNat p.body) = H at *
  generalize nums (headB p'.kind.toNat p'.no.toNat p'.txn.toNat p'.body) = H' at *
  generalize nums (tailB p.body) = T at *
  generalize nums (tailB p'.body) = T' at *
  generalize sumB p.kind.toNat p.no.toNat p.txn.toNat p.body = S at *
  generalize sumB p'.kind.toNat p'.no.toNat p'.txn.toNat p'.body = S' at *
  have hdl : (delta 512 a b).length = 512 := delta_length 512 a b ha
  rw [e1, e2, zip3 H (numL 4 S) T (delta 512 a b) 18 4 l1 (numL_length _ _) (by omega)] at hz
  obtain ⟨z1, z2, z3⟩ := app3 hz (by rw [List.length_zipWith, List.length_take, l1, l2, hdl]; rfl) (by rw [List.length_zipWith, List.length_take, List.length_drop, numL_length, numL_length, hdl]; rfl)
  have hS : S < 256 ^ 4 := by rw [q1]; exact onL_lt _
  have hS' : S' < 256 ^ 4 := by rw [q2]; exact onL_lt _
  rcases hm with hm | hm
  · have hout := mix_out a b 18 hm
    have d2 : ((delta 512 a b).drop 18).take 4 = List.replicate 4 0 := delta_zeros 512 a b 18 4 ha (by decide) (fun k hk h1 h2 => Decidable.byContradiction fun hn => hout k hk hn ⟨h1, h2⟩)
    rw [d2, zip_zeros _ 4 (numL_length _ _)] at z2
    have hSS : S' = S := numL_inj 4 _ _ hS' hS z2
    have hX : H' ++ (List.replicate 4 0 ++ T') = List.zipWith (· ^^^ ·) (H ++ (List.replicate 4 0 ++ T)) (delta 512 a b) := by
      rw [zip3 H (List.replicate 4 0) T (delta 512 a b) 18 4 l1 (by simp) (by omega), d2, ← z1, ← z3]
      rfl
    rw [q2, hX, q1] at hSS
    have hR := reg_zip_same _ _ (by simp only [List.length_append, List.length_replicate]; omega) (by
      intro c hc
      simp only [List.mem_append, List.mem_replicate] at hc
      rcases hc with hc | hc | hc
      · exact b1 c hc
      · omega
      · exact b2 c hc) (delta_lt 512 a b) hSS
    exact h0 ((reg_delta 512 a b hb).1 hR)
  · have hin := mix_in a b 18 hm
    have d1 : (delta 512 a b).take 18 = List.replicate 18 0 := delta_zeros 512 a b 0 18 ha (by decide) (fun k hk h1 h2 => Decidable.byContradiction fun hn => by have := hin k hk hn; omega)
    have d3' : ((delta 512 a b).drop 22).take 490 = List.replicate 490 0 := delta_zeros 512 a b 22 490 ha (by decide) (fun k hk h1 h2 => Decidable.byContradiction fun hn => by have := hin k hk hn; omega)
    have d3 : ((delta 512 a b).drop 18).drop 4 = List.replicate 490 0 := by
      rw [List.drop_drop, ← d3', List.take_of_length_le (by rw [List.length_drop, hdl]; decide)]
    rw [d1, zip_zeros _ 18 l1] at z1
    rw [d3, zip_zeros _ 490 t1] at z3
    have hSS : S' = S := by rw [q1, q2, z1, z3]
    rw [hSS] at z2
    have d2 := zip_same _ _ (by rw [List.length_take, List.length_drop, numL_length, hdl]; rfl) z2.symm
    have d2' : ((delta 512 a b).drop 18).take 4 = List.replicate 4 0 := by
      rw [d2]
      congr 1
      rw [List.length_take, List.length_drop, hdl]
      rfl
    exact h0 (delta_all 512 a b 18 4 hb d1 d2' d3)
/-- THE LAW: a meta's bytes that were turned are none's -/
theorem meta_tells (p : Mt) (s : ByteArray) (hp : packM p = (s, 0)) (a b : Nat) (ha : a + 4 ≤ 128) (hb : b < 4294967296) (h0 : b ≠ 0) (hm : mixB a b 32 = false ∨ outB a b 32 = false) :
    unpackM (turned s a b 4) = (m0, 4) := by
  apply unpackM_none
  intro p' hp'
  obtain ⟨hr, hs⟩ := packM_ok p s hp
  obtain ⟨hr', hs'⟩ := packM_ok p' _ hp'
  have hsz : s.size = 128 := (get_packM p s hp).1
  have hz := turned_zip s a b (by omega)
  rw [hsz] at hz
  have e1 : nums s = nums (frontB p.txn.toNat p.root.toNat p.free.toNat p.pages.toNat p.limit.toNat) ++ (numL 4 (onN 0 (frontB p.txn.toNat p.root.toNat p.free.toNat p.pages.toNat p.limit.toNat)) ++ List.replicate 92 0) := by
    rw [hs]; unfold metaB; rw [CrcPlain.nums_append, CrcPlain.nums_append, nums_numB, nums_zerosB, List.append_assoc]
  have e2 : nums (turned s a b 4) = nums (frontB p'.txn.toNat p'.root.toNat p'.free.toNat p'.pages.toNat p'.limit.toNat) ++ (numL 4 (onN 0 (frontB p'.txn.toNat p'.root.toNat p'.free.toNat p'.pages.toNat p'.limit.toNat)) ++ List.replicate 92 0) := by
    rw [hs']; unfold metaB; rw [CrcPlain.nums_append, CrcPlain.nums_append, nums_numB, nums_zerosB, List.append_assoc]
  have l1 : (nums (frontB p.txn.toNat p.root.toNat p.free.toNat p.pages.toNat p.limit.toNat)).length = 32 := by rw [nums_length, frontB_size]
  have l2 : (nums (frontB p'.txn.toNat p'.root.toNat p'.free.toNat p'.pages.toNat p'.limit.toNat)).length = 32 := by rw [nums_length, frontB_size]
  have b1 := nums_lt (frontB p.txn.toNat p.root.toNat p.free.toNat p.pages.toNat p.limit.toNat)
  rw [onN_onL] at e1 e2
  generalize nums (frontB p.txn.toNat p.root.toNat p.free.toNat p.pages.toNat p.limit.toNat) = H at *
  generalize nums (frontB p'.txn.toNat p'.root.toNat p'.free.toNat p'.pages.toNat p'.limit.toNat) = H' at *
  have hdl : (delta 128 a b).length = 128 := delta_length 128 a b ha
  rw [e1, e2, zip3 H (numL 4 (onL H)) (List.replicate 92 0) (delta 128 a b) 32 4 l1 (numL_length _ _) (by rw [List.length_replicate]; exact hdl)] at hz
  obtain ⟨z1, z2, z3⟩ := app3 hz (by rw [List.length_zipWith, List.length_take, l1, l2, hdl]; rfl) (by rw [List.length_zipWith, List.length_take, List.length_drop, numL_length, numL_length, hdl]; rfl)
  have hS : onL H < 256 ^ 4 := onL_lt _
  have hS' : onL H' < 256 ^ 4 := onL_lt _
  have d3 : ((delta 128 a b).drop 32).drop 4 = List.replicate 92 0 := by
    have := zip_same _ _ (by rw [List.length_drop, List.length_drop, hdl, List.length_replicate]) z3.symm
    rw [this]
    congr 1
    rw [List.length_drop, List.length_drop, hdl]
  rcases hm with hm | hm
  · have hout := mix_out a b 32 hm
    have d2 : ((delta 128 a b).drop 32).take 4 = List.replicate 4 0 := delta_zeros 128 a b 32 4 ha (by decide) (fun k hk h1 h2 => Decidable.byContradiction fun hn => hout k hk hn ⟨h1, h2⟩)
    rw [d2, zip_zeros _ 4 (numL_length _ _)] at z2
    have hSS : onL H' = onL H := numL_inj 4 _ _ hS' hS z2
    rw [z1] at hSS
    have hR := reg_zip_same _ _ (by rw [List.length_take, l1, hdl]; rfl) b1 (fun c hc => delta_lt 128 a b c (List.mem_of_mem_take hc)) hSS
    apply h0
    apply (reg_delta 128 a b hb).1
    rw [cut3 (delta 128 a b) 32 4, d2, d3, reg_append, reg_append, hR, reg_zeros, reg_zeros]
  · have hin := mix_in a b 32 hm
    have d1 : (delta 128 a b).take 32 = List.replicate 32 0 := delta_zeros 128 a b 0 32 ha (by decide) (fun k hk h1 h2 => Decidable.byContradiction fun hn => by have := hin k hk hn; omega)
    rw [d1, zip_zeros _ 32 l1] at z1
    rw [z1] at z2
    have d2 := zip_same _ _ (by rw [List.length_take, List.length_drop, numL_length, hdl]; rfl) z2.symm
    have d2' : ((delta 128 a b).drop 32).take 4 = List.replicate 4 0 := by
      rw [d2]
      congr 1
      rw [List.length_take, List.length_drop, hdl]
      rfl
    exact h0 (delta_all 128 a b 32 4 hb d1 d2' d3)
end Go.Proofs.YtcoddeemfdnjpaaDoor.PagePlain
