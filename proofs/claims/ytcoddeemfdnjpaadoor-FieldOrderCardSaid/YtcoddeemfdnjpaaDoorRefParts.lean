/- The plain law of the reference's reading of tuples: what its printed functions Parts, Same and the law's own bound come to. -/
import Derived.Test.YtcoddeemfdnjpaaDoorRefTuple
namespace Go.Proofs.YtcoddeemfdnjpaaDoor
open Go.RowKit TextPlain
open Go.Proofs.YtcoddeemfdnjpaaDoorW.PrintMore
open Go.Proofs.YtcoddeemfdnjpaaDoorW.PrintWords hiding nums nums_length nums_append
def goneF (o : Option (List (List UInt8))) : List ByteArray × Int := match o with
  | none => ([], 4)
  | some l => (l.map toB, 0)
theorem u_is (u : UInt8) (n : Nat) (h : n < 256) : ((u.toNat : Int) = (n : Int)) ↔ u = UInt8.ofNat n := by
  constructor
  · intro h'
    have h2 : u.toNat = n := by omega
    rw [← h2]; simp
  · rintro rfl
    have : (UInt8.ofNat n).toNat = n := by rw [UInt8.toNat_ofNat']; omega
    omega
section
variable (k : Nat) (s : ByteArray) (x4 : List ByteArray) (x5 : List Int) (op : Bool) (i i1 i2 v w : Int)
theorem pst_other (h1 : i < s.size) (h0 : 0 ≤ i) (hb : bt s i = v) (hv : ¬ v = 0) (e1 : wrap64 (i + 1) = i1) (hl : x5.length < 140737488355328) :
    Fn.rollbookref01_Parts.l0 (k + 1) s x4 x5 op i = Fn.rollbookref01_Parts.l0 k s x4 (x5 ++ [v]) true i1 := by
  rw [Fn.rollbookref01_Parts.l0, if_pos h1, if_pos h0, hb, if_neg hv, if_pos hl, e1]
theorem pst_last (h1 : i < s.size) (h0 : 0 ≤ i) (hb : bt s i = 0) (e1 : wrap64 (i + 1) = i1) (hl : i1 ≥ s.size) :
    Fn.rollbookref01_Parts.l0 (k + 1 + 1) s x4 x5 op i = some ([], 4) := by
  rw [Fn.rollbookref01_Parts.l0, if_pos h1, if_pos h0, hb, if_pos rfl, e1, if_pos hl, Fn.rollbookref01_Parts.j1, if_pos rfl]
theorem pst_close (h1 : i < s.size) (h0 : 0 ≤ i) (hb : bt s i = 0) (e1 : wrap64 (i + 1) = i1) (hl : ¬ i1 ≥ s.size) (g0 : 0 ≤ i1) (g1 : i1 < s.size) (hc : bt s i1 = 1) (hz : x4.length < 8796093022208) (e2 : wrap64 (i1 + 1) = i2) :
    Fn.rollbookref01_Parts.l0 (k + 1 + 1) s x4 x5 op i = Fn.rollbookref01_Parts.l0 k s (x4 ++ [strOfNums x5]) [] false i2 := by
  rw [Fn.rollbookref01_Parts.l0, if_pos h1, if_pos h0, hb, if_pos rfl, e1, if_neg hl, if_pos g0, if_pos g1, hc, if_pos rfl, Fn.rollbookref01_Parts.j1, if_neg (by decide), e1, if_pos g0, if_pos g1, hc, if_neg (by decide), if_pos hz, e2]
theorem pst_esc (h1 : i < s.size) (h0 : 0 ≤ i) (hb : bt s i = 0) (e1 : wrap64 (i + 1) = i1) (hl : ¬ i1 ≥ s.size) (g0 : 0 ≤ i1) (g1 : i1 < s.size) (hc : bt s i1 = 255) (hz : x5.length < 140737488355328) (e2 : wrap64 (i1 + 1) = i2) :
    Fn.rollbookref01_Parts.l0 (k + 1 + 1) s x4 x5 op i = Fn.rollbookref01_Parts.l0 k s x4 (x5 ++ [0]) true i2 := by
  rw [Fn.rollbookref01_Parts.l0, if_pos h1, if_pos h0, hb, if_pos rfl, e1, if_neg hl, if_pos g0, if_pos g1, hc, if_neg (by decide), show ((255 : Int) != 255) = false by rfl, Fn.rollbookref01_Parts.j1, if_neg (by decide), e1, if_pos g0, if_pos g1, hc, if_pos rfl, if_pos hz, e2]
theorem pst_bad (h1 : i < s.size) (h0 : 0 ≤ i) (hb : bt s i = 0) (e1 : wrap64 (i + 1) = i1) (hl : ¬ i1 ≥ s.size) (g0 : 0 ≤ i1) (g1 : i1 < s.size) (hc : bt s i1 = v) (n1 : ¬ v = 1) (n2 : (v != 255) = true) :
    Fn.rollbookref01_Parts.l0 (k + 1 + 1) s x4 x5 op i = some ([], 4) := by
  rw [Fn.rollbookref01_Parts.l0, if_pos h1, if_pos h0, hb, if_pos rfl, e1, if_neg hl, if_pos g0, if_pos g1, hc, if_neg n1, n2, Fn.rollbookref01_Parts.j1, if_pos rfl]
end
theorem w1 (i : Nat) (h : i < 5000) : wrap64 ((i : Int) + 1) = ((i + 1 : Nat) : Int) := by unfold wrap64; omega
theorem refGo_u (u : UInt8) (r b : List UInt8) (op : Bool) (acc : List (List UInt8)) (h : u ≠ 0) : refGo (u :: r) b op acc = refGo r (b ++ [u]) true acc := by rw [refGo_cons, if_pos h]
theorem refGo_z (b : List UInt8) (op : Bool) (acc : List (List UInt8)) : refGo [0] b op acc = none := by rw [refGo_cons]; rfl
theorem refGo_e (r b : List UInt8) (op : Bool) (acc : List (List UInt8)) : refGo (0 :: 255 :: r) b op acc = refGo r (b ++ [0]) true acc := by rw [refGo_cons]; rfl
theorem refGo_c (r b : List UInt8) (op : Bool) (acc : List (List UInt8)) : refGo (0 :: 1 :: r) b op acc = refGo r [] false (acc ++ [b]) := by rw [refGo_cons]; rfl
theorem refGo_b (d : UInt8) (r b : List UInt8) (op : Bool) (acc : List (List UInt8)) (h : d ≠ 255) (h1 : d ≠ 1) : refGo (0 :: d :: r) b op acc = none := by
  rw [refGo_cons, if_neg (by decide)]
  show (if d = 255 then _ else if d = 1 then _ else none) = none
  rw [if_neg h, if_neg h1]
theorem refParts_l0 (s : ByteArray) (hz : s.size ≤ 4096) : ∀ (n k i : Nat) (r b : List UInt8) (op : Bool) (acc : List (List UInt8)), r.length ≤ n → s.data.toList.drop i = r → b.length + r.length ≤ 5000 → acc.length + r.length ≤ 5000 → 2 * r.length + 1 ≤ k →
    Fn.rollbookref01_Parts.l0 k s (acc.map toB) (intsU b) op (i : Int) = some (goneF (refGo r b op acc)) := by
  intro n
  induction n with
  | zero =>
    intro k i r b op acc hn hd hb ha hk
    obtain rfl : r = [] := by simpa using hn
    have he := drop_end s i hd
    obtain ⟨k, rfl⟩ : ∃ q, k = q + 1 := ⟨k - 1, by omega⟩
    rw [Fn.rollbookref01_Parts.l0, if_neg (by omega), refGo]
    by_cases c : op = true
    · rw [if_pos c, if_pos (.inl c)]; rfl
    · rw [if_neg c, List.length_map]
      by_cases c2 : 16 < acc.length
      · rw [if_pos (by omega), if_pos (.inr c2)]; rfl
      · rw [if_neg (by omega), if_neg (fun h => by rcases h with h | h; exact c h; exact c2 h)]; rfl
  | succ n ih =>
    intro k i r b op acc hn hd hb ha hk
    cases r with
    | nil => exact ih k i [] b op acc (by simp) hd hb ha hk
    | cons u r =>
      simp only [List.length_cons] at hn hb ha hk
      obtain ⟨hlt, hbt, hdr⟩ := bt_at_list s i u r hd
      have hi : i < 4096 := by omega
      have e1 := w1 i (by omega)
      have h1 : (i : Int) < (s.size : Int) := Int.ofNat_lt.2 hlt
      have h0 : (0 : Int) ≤ (i : Int) := Int.natCast_nonneg i
      have hb' : (intsU b).length < 140737488355328 := by rw [intsU_length]; omega
      have ha' : (acc.map toB).length < 8796093022208 := by rw [List.length_map]; omega
      by_cases hu : u = 0
      · subst hu
        obtain ⟨k, rfl⟩ : ∃ q, k = q + 1 + 1 := ⟨k - 2, by omega⟩
        cases r with
        | nil =>
          have he := drop_end s (i + 1) hdr
          rw [pst_last k s _ _ op i _ h1 h0 hbt e1 (Int.ofNat_le.2 he), refGo_z]
          rfl
        | cons d r =>
          simp only [List.length_cons] at hn hb ha hk
          obtain ⟨hlt2, hbt2, hdr2⟩ := bt_at_list s (i + 1) d r hdr
          have e2 := w1 (i + 1) (by omega)
          have g1 : ((i + 1 : Nat) : Int) < (s.size : Int) := Int.ofNat_lt.2 hlt2
          have g0 : (0 : Int) ≤ ((i + 1 : Nat) : Int) := Int.natCast_nonneg _
          by_cases hd1 : d = 1
          · subst hd1
            rw [pst_close k s _ _ op i _ _ h1 h0 hbt e1 (Int.not_le.2 g1) g0 g1 hbt2 ha' e2, refGo_c, strOfU]
            have := ih k (i + 1 + 1) r [] false (acc ++ [b]) (by omega) hdr2 (by simp; omega) (by simp; omega) (by omega)
            rw [List.map_append] at this
            exact this
          · by_cases h255 : d = 255
            · subst h255
              rw [pst_esc k s _ _ op i _ _ h1 h0 hbt e1 (Int.not_le.2 g1) g0 g1 hbt2 hb' e2, refGo_e]
              have := ih k (i + 1 + 1) r (b ++ [0]) true acc (by omega) hdr2 (by simp; omega) (by omega) (by omega)
              rw [intsU_append] at this
              exact this
            · have n1 : ¬ ((d.toNat : Int) = 1) := fun h => hd1 ((u_is d 1 (by decide)).1 h)
              have n2 : ¬ ((d.toNat : Int) = 255) := fun h => h255 ((u_is d 255 (by decide)).1 h)
              rw [pst_bad k s _ _ op i _ _ h1 h0 hbt e1 (Int.not_le.2 g1) g0 g1 hbt2 n1 (by simpa using n2), refGo_b d r b op acc h255 hd1]
              rfl
      · obtain ⟨k, rfl⟩ : ∃ q, k = q + 1 := ⟨k - 1, by omega⟩
        rw [pst_other k s _ _ op i _ _ h1 h0 hbt (fun h => hu ((u_zero u).1 h)) e1 hb', refGo_u u r b op acc hu]
        have := ih k (i + 1) r (b ++ [u]) true acc (by omega) hdr (by simp; omega) (by omega) (by omega)
        rw [intsU_append] at this
        exact this
theorem refParts_f (s : ByteArray) : Fn.rollbookref01_Parts.f 9000 s = some (partsF s) := by
  rw [parts_are]
  unfold Fn.rollbookref01_Parts.f refPartsF
  have hl := Lib.size_eq s
  by_cases c : 4096 < s.size
  · rw [if_pos (by omega), if_pos c]
  · rw [if_neg (by omega), if_neg c]
    have := refParts_l0 s (by omega) s.data.toList.length 9000 0 s.data.toList [] false [] (Nat.le_refl _) rfl (by simp; omega) (by simp; omega) (by omega)
    exact this
theorem rd_nat (l : List ByteArray) (k : Nat) (h : k < l.length) : rdOf ByteArray.empty l (k : Int) = l[k] := by
  simp [rdOf, List.getD_eq_getElem?_getD, List.getElem?_eq_getElem h]
theorem refSame_l0 (l : List ByteArray) (h : l.length < 4294967296) : ∀ (d i k : Nat), l.length = i + d → d + 1 ≤ k → Fn.rollbookref01_Same.l0 k l l (i : Int) = some true := by
  intro d
  induction d with
  | zero =>
    intro i k hd hk
    obtain ⟨k, rfl⟩ : ∃ q, k = q + 1 := ⟨k - 1, by omega⟩
    rw [Fn.rollbookref01_Same.l0, if_neg (by omega)]
  | succ d ih =>
    intro i k hd hk
    obtain ⟨k, rfl⟩ : ∃ q, k = q + 1 := ⟨k - 1, by omega⟩
    have e1 : wrap64 ((i : Int) + 1) = ((i + 1 : Nat) : Int) := by unfold wrap64; omega
    rw [Fn.rollbookref01_Same.l0, if_pos (by omega), if_pos (by omega), if_pos (by omega), if_pos rfl, e1]
    exact ih (i + 1) k (by omega) (by omega)
theorem refSame_f (l : List ByteArray) (h : l.length < 4294967296) : Fn.rollbookref01_Same.f (l.length + 1) l l = some true := by
  unfold Fn.rollbookref01_Same.f
  rw [if_pos rfl]
  exact refSame_l0 l h l.length 0 _ (by omega) (by omega)
theorem mn_le (a b : Int) (ha : 0 ≤ a) (hb : 0 ≤ b) : 0 ≤ mn a b ∧ mn a b ≤ b := by unfold mn; split <;> omega
theorem long_l0 (l : List ByteArray) : ∀ (d i k : Nat) (n : Int), 41 ≤ i + d → i ≤ 40 → 0 ≤ n → n ≤ 100000 → d + 1 ≤ k → ∃ b, Fn.rollbooklaw01_long.l0 k l n (i : Int) = some b := by
  intro d
  induction d with
  | zero => intro i k n hd hi; omega
  | succ d ih =>
    intro i k n hd hi h0 hn hk
    obtain ⟨k, rfl⟩ : ∃ q, k = q + 1 := ⟨k - 1, by omega⟩
    rw [Fn.rollbooklaw01_long.l0]
    have e1 : wrap64 ((i : Int) + 1) = ((i + 1 : Nat) : Int) := by unfold wrap64; omega
    by_cases c1 : (i : Int) < (l.length : Int)
    · by_cases c2 : (i : Int) < 40
      · by_cases c3 : n ≤ 9000
        · rw [if_pos c1, if_pos c2, if_pos c3, if_pos (by omega), e1]
          have hm := mn_le ((rdOf ByteArray.empty l (i : Int)).size : Int) 9001 (by omega) (by omega)
          obtain ⟨m, hm'⟩ : ∃ m, m = mn ((rdOf ByteArray.empty l (i : Int)).size : Int) 9001 := ⟨_, rfl⟩
          rw [← hm'] at hm ⊢
          have e2 : wrap64 (n + m) = n + m := by unfold wrap64; omega
          rw [e2]
          exact ih (i + 1) k (n + m) (by omega) (by omega) (by omega) (by omega) (by omega)
        · rw [if_pos c1, if_pos c2, if_neg c3]; split <;> exact ⟨_, rfl⟩
      · rw [if_pos c1, if_neg c2]; split <;> exact ⟨_, rfl⟩
    · rw [if_neg c1]; split <;> exact ⟨_, rfl⟩
theorem long_f (l : List ByteArray) : ∃ b, Fn.rollbooklaw01_long.f 50 l = some b := long_l0 l 41 0 50 0 (by omega) (by omega) (by omega) (by omega) (by omega)
end Go.Proofs.YtcoddeemfdnjpaaDoor
