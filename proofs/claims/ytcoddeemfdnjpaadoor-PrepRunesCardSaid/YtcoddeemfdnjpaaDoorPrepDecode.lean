/- The model's own reading of runes, held against the plain law's. -/
import Derived.Test.YtcoddeemfdnjpaaDoorPrepPlain
import Derived.Laws.RangeAny
namespace Go.Proofs.YtcoddeemfdnjpaaDoor.PrepPlain
open Go.Lib
/-- the model's reading, of four bytes and whether they are there -/
def decU (a b c d : UInt8) (k1 k2 k3 : Bool) : Nat × Nat :=
  if a.toNat < 128 then (a.toNat, 1)
  else if (a.toNat / 32 == 6 && (k1 && b.toNat / 64 == 2)) = true then
    (if (a.toNat % 32) * 64 + b.toNat % 64 ≥ 128 then ((a.toNat % 32) * 64 + b.toNat % 64, 2) else (65533, 1))
  else if (a.toNat / 16 == 14 && (k1 && b.toNat / 64 == 2) && (k2 && c.toNat / 64 == 2)) = true then
    (if ((decide ((a.toNat % 16) * 4096 + (b.toNat % 64) * 64 + c.toNat % 64 ≥ 2048)) && Utf8.valid (((a.toNat % 16) * 4096 + (b.toNat % 64) * 64 + c.toNat % 64 : Nat) : Int)) = true then ((a.toNat % 16) * 4096 + (b.toNat % 64) * 64 + c.toNat % 64, 3) else (65533, 1))
  else if (a.toNat / 8 == 30 && (k1 && b.toNat / 64 == 2) && (k2 && c.toNat / 64 == 2) && (k3 && d.toNat / 64 == 2)) = true then
    (if ((decide ((a.toNat % 8) * 262144 + (b.toNat % 64) * 4096 + (c.toNat % 64) * 64 + d.toNat % 64 ≥ 65536)) && Utf8.valid (((a.toNat % 8) * 262144 + (b.toNat % 64) * 4096 + (c.toNat % 64) * 64 + d.toNat % 64 : Nat) : Int)) = true then ((a.toNat % 8) * 262144 + (b.toNat % 64) * 4096 + (c.toNat % 64) * 64 + d.toNat % 64, 4) else (65533, 1))
  else (65533, 1)
theorem decode_eq (s : ByteArray) (i : Nat) : Utf8.decode s i = decU (s.get! (i + 0)) (s.get! (i + 1)) (s.get! (i + 2)) (s.get! (i + 3)) (decide (i + 1 < s.size)) (decide (i + 2 < s.size)) (decide (i + 3 < s.size)) := rfl
theorem valid_iff (n : Nat) : Utf8.valid (n : Int) = true ↔ okR n := by
  unfold Utf8.valid okR
  simp only [Bool.or_eq_true, Bool.and_eq_true, decide_eq_true_eq]
  omega
theorem get_is (s : ByteArray) (i k : Nat) (x : UInt8) (h : (s.data.toList.drop i)[k]? = some x) : i + k < s.size ∧ s.get! (i + k) = x := by
  rw [List.getElem?_drop, Array.getElem?_toList] at h
  obtain ⟨h1, h2⟩ := Array.getElem?_eq_some_iff.1 h
  have hs : i + k < s.size := h1
  refine ⟨hs, ?_⟩
  rw [ByteArray.get!, getElem!_pos s.data (i + k) h1, h2]
theorem get_of (s : ByteArray) (i k : Nat) (h : i + k < s.size) : (s.data.toList.drop i)[k]? = some (s.get! (i + k)) := by
  have h1 : i + k < s.data.size := h
  rw [List.getElem?_drop, Array.getElem?_toList, Array.getElem?_eq_getElem h1, ByteArray.get!, getElem!_pos s.data (i + k) h1]
theorem decU_1 (a b c d : UInt8) (k1 k2 k3 : Bool) (h : a.toNat < 128) : decU a b c d k1 k2 k3 = (a.toNat, 1) := by unfold decU; rw [if_pos h]
theorem decU_2 (a b c d : UInt8) (k2 k3 : Bool) (h1 : 194 ≤ a.toNat) (h2 : a.toNat < 224) (hb : conB b) : decU a b c d true k2 k3 = (v2 a b, 2) := by
  unfold conB at hb
  have e : a.toNat % 32 * 64 + b.toNat % 64 = v2 a b := by unfold v2; omega
  have c1 : (a.toNat / 32 == 6 && (true && b.toNat / 64 == 2)) = true := by simp; omega
  unfold decU
  rw [if_neg (by omega), if_pos c1, e, if_pos (by unfold v2; omega)]
theorem decU_3 (a b c d : UInt8) (k3 : Bool) (h1 : 224 ≤ a.toNat) (h2 : a.toNat < 240) (hb : conB b) (hc : conB c) (h3 : 2048 ≤ v3 a b c) (h4 : ¬ (55296 ≤ v3 a b c ∧ v3 a b c ≤ 57343)) : decU a b c d true true k3 = (v3 a b c, 3) := by
  unfold conB at hb hc
  have e : a.toNat % 16 * 4096 + b.toNat % 64 * 64 + c.toNat % 64 = v3 a b c := by unfold v3; omega
  have hle : v3 a b c ≤ 1114111 := by unfold v3; omega
  have c1 : ¬ (a.toNat / 32 == 6 && (true && b.toNat / 64 == 2)) = true := by simp; omega
  have c2 : (a.toNat / 16 == 14 && (true && b.toNat / 64 == 2) && (true && c.toNat / 64 == 2)) = true := by simp; omega
  unfold decU
  rw [if_neg (by omega), if_neg c1, if_pos c2, e, if_pos (by rw [Bool.and_eq_true, decide_eq_true_iff, valid_iff]; exact ⟨h3, hle, h4⟩)]
theorem decU_4 (a b c d : UInt8) (h1 : 240 ≤ a.toNat) (h2 : a.toNat < 245) (hb : conB b) (hc : conB c) (hd : conB d) (h3 : 65536 ≤ v4 a b c d) (h4 : v4 a b c d ≤ 1114111) : decU a b c d true true true = (v4 a b c d, 4) := by
  unfold conB at hb hc hd
  have e : a.toNat % 8 * 262144 + b.toNat % 64 * 4096 + c.toNat % 64 * 64 + d.toNat % 64 = v4 a b c d := by unfold v4; omega
  have c1 : ¬ (a.toNat / 32 == 6 && (true && b.toNat / 64 == 2)) = true := by simp; omega
  have c2 : ¬ (a.toNat / 16 == 14 && (true && b.toNat / 64 == 2) && (true && c.toNat / 64 == 2)) = true := by simp; omega
  have c3 : (a.toNat / 8 == 30 && (true && b.toNat / 64 == 2) && (true && c.toNat / 64 == 2) && (true && d.toNat / 64 == 2)) = true := by simp; omega
  unfold decU
  rw [if_neg (by omega), if_neg c1, if_neg c2, if_pos c3, e, if_pos (by rw [Bool.and_eq_true, decide_eq_true_iff, valid_iff]; exact ⟨h3, h4, by omega⟩)]
/-- where there is a rune, the model reads it -/
theorem decode_some (s : ByteArray) (i v n : Nat) (h : one (s.data.toList.drop i) = some (v, n)) : Utf8.decode s i = (v, n) := by
  rw [decode_eq]
  cases hD : s.data.toList.drop i with
  | nil => rw [hD] at h; cases h
  | cons a l =>
    rw [hD] at h
    have g0 := (get_is s i 0 a (by rw [hD]; rfl)).2
    rw [g0]
    rw [one_cons] at h
    by_cases c1 : a.toNat < 128
    · rw [if_pos c1] at h
      exact (decU_1 a _ _ _ _ _ _ c1).trans (Option.some.inj h)
    · rw [if_neg c1] at h
      by_cases c2 : 194 ≤ a.toNat ∧ a.toNat < 224
      · rw [if_pos c2] at h
        match l, h with
        | b :: l, h =>
          simp only at h
          obtain ⟨q1, g1⟩ := get_is s i 1 b (by rw [hD]; rfl)
          rw [g1, decide_eq_true q1]
          by_cases d1 : conB b
          · rw [if_pos d1] at h
            exact (decU_2 a b _ _ _ _ c2.1 c2.2 d1).trans (Option.some.inj h)
          · rw [if_neg d1] at h; cases h
      · rw [if_neg c2] at h
        by_cases c3 : 224 ≤ a.toNat ∧ a.toNat < 240
        · rw [if_pos c3] at h
          match l, h with
          | b :: c :: l, h =>
            simp only at h
            obtain ⟨q1, g1⟩ := get_is s i 1 b (by rw [hD]; rfl)
            obtain ⟨q2, g2⟩ := get_is s i 2 c (by rw [hD]; rfl)
            rw [g1, g2, decide_eq_true q1, decide_eq_true q2]
            by_cases d1 : conB b ∧ conB c ∧ 2048 ≤ v3 a b c ∧ ¬ (55296 ≤ v3 a b c ∧ v3 a b c ≤ 57343)
            · rw [if_pos d1] at h
              exact (decU_3 a b c _ _ c3.1 c3.2 d1.1 d1.2.1 d1.2.2.1 d1.2.2.2).trans (Option.some.inj h)
            · rw [if_neg d1] at h; cases h
        · rw [if_neg c3] at h
          by_cases c4 : 240 ≤ a.toNat ∧ a.toNat < 245
          · rw [if_pos c4] at h
            match l, h with
            | b :: c :: d :: l, h =>
              simp only at h
              obtain ⟨q1, g1⟩ := get_is s i 1 b (by rw [hD]; rfl)
              obtain ⟨q2, g2⟩ := get_is s i 2 c (by rw [hD]; rfl)
              obtain ⟨q3, g3⟩ := get_is s i 3 d (by rw [hD]; rfl)
              rw [g1, g2, g3, decide_eq_true q1, decide_eq_true q2, decide_eq_true q3]
              by_cases d1 : conB b ∧ conB c ∧ conB d ∧ 65536 ≤ v4 a b c d ∧ v4 a b c d ≤ 1114111
              · rw [if_pos d1] at h
                exact (decU_4 a b c d c4.1 c4.2 d1.1 d1.2.1 d1.2.2.1 d1.2.2.2.1 d1.2.2.2.2).trans (Option.some.inj h)
              · rw [if_neg d1] at h; cases h
          · rw [if_neg c4] at h; cases h
theorem con_of {b : UInt8} (h : b.toNat / 64 = 2) : conB b := ⟨by omega, by omega⟩
/-- what the model reads is a rune of the plain law, or the sign of none -/
theorem decU_any (a b c d : UInt8) (k1 k2 k3 : Bool) : decU a b c d k1 k2 k3 = (65533, 1) ∨ (a.toNat < 128) ∨
    (k1 = true ∧ 194 ≤ a.toNat ∧ a.toNat < 224 ∧ conB b) ∨
    (k1 = true ∧ k2 = true ∧ 224 ≤ a.toNat ∧ a.toNat < 240 ∧ conB b ∧ conB c ∧ 2048 ≤ v3 a b c ∧ ¬ (55296 ≤ v3 a b c ∧ v3 a b c ≤ 57343)) ∨
    (k1 = true ∧ k2 = true ∧ k3 = true ∧ 240 ≤ a.toNat ∧ a.toNat < 245 ∧ conB b ∧ conB c ∧ conB d ∧ 65536 ≤ v4 a b c d ∧ v4 a b c d ≤ 1114111) := by
  have ha := a.toNat_lt
  unfold decU
  by_cases c1 : a.toNat < 128
  · exact .inr (.inl c1)
  · rw [if_neg c1]
    by_cases c2 : (a.toNat / 32 == 6 && (k1 && b.toNat / 64 == 2)) = true
    · rw [if_pos c2]
      simp only [Bool.and_eq_true, beq_iff_eq] at c2
      by_cases c3 : a.toNat % 32 * 64 + b.toNat % 64 ≥ 128
      · exact .inr (.inr (.inl ⟨c2.2.1, by omega, by omega, con_of c2.2.2⟩))
      · rw [if_neg c3]; exact .inl rfl
    · rw [if_neg c2]
      by_cases c4 : (a.toNat / 16 == 14 && (k1 && b.toNat / 64 == 2) && (k2 && c.toNat / 64 == 2)) = true
      · rw [if_pos c4]
        simp only [Bool.and_eq_true, beq_iff_eq] at c4
        obtain ⟨⟨p1, p2, p3⟩, p4, p5⟩ := c4
        have e : a.toNat % 16 * 4096 + b.toNat % 64 * 64 + c.toNat % 64 = v3 a b c := by unfold v3; omega
        rw [e]
        by_cases c5 : (decide (v3 a b c ≥ 2048) && Utf8.valid ((v3 a b c : Nat) : Int)) = true
        · rw [Bool.and_eq_true, decide_eq_true_iff, valid_iff] at c5
          exact .inr (.inr (.inr (.inl ⟨p2, p4, by omega, by omega, con_of p3, con_of p5, c5.1, c5.2.2⟩)))
        · rw [if_neg c5]; exact .inl rfl
      · rw [if_neg c4]
        by_cases c6 : (a.toNat / 8 == 30 && (k1 && b.toNat / 64 == 2) && (k2 && c.toNat / 64 == 2) && (k3 && d.toNat / 64 == 2)) = true
        · rw [if_pos c6]
          simp only [Bool.and_eq_true, beq_iff_eq] at c6
          obtain ⟨⟨⟨p1, p2, p3⟩, p4, p5⟩, p6, p7⟩ := c6
          have e : a.toNat % 8 * 262144 + b.toNat % 64 * 4096 + c.toNat % 64 * 64 + d.toNat % 64 = v4 a b c d := by unfold v4; omega
          rw [e]
          by_cases c7 : (decide (v4 a b c d ≥ 65536) && Utf8.valid ((v4 a b c d : Nat) : Int)) = true
          · rw [Bool.and_eq_true, decide_eq_true_iff, valid_iff] at c7
            have h1 := c7.2.1
            have h2 : a.toNat < 245 := by
              rcases Nat.lt_or_ge a.toNat 245 with h | h
              · exact h
              · unfold v4 at h1; omega
            exact .inr (.inr (.inr (.inr ⟨p2, p4, p6, by omega, h2, con_of p3, con_of p5, con_of p7, c7.1, h1⟩)))
          · rw [if_neg c7]; exact .inl rfl
        · rw [if_neg c6]; exact .inl rfl
theorem decode_none (s : ByteArray) (i : Nat) (hi : i < s.size) (h : one (s.data.toList.drop i) = none) : Utf8.decode s i = (65533, 1) := by
  rw [decode_eq]
  have g0 := get_of s i 0 hi
  rcases decU_any (s.get! (i + 0)) (s.get! (i + 1)) (s.get! (i + 2)) (s.get! (i + 3)) (decide (i + 1 < s.size)) (decide (i + 2 < s.size)) (decide (i + 3 < s.size)) with h1 | h1 | h1 | h1 | h1
  · exact h1
  · exfalso
    cases hD : s.data.toList.drop i with
    | nil => rw [hD] at g0; cases g0
    | cons a l =>
      rw [hD] at g0 h
      have e0 : a = s.get! (i + 0) := Option.some.inj g0
      rw [one_cons, e0, if_pos h1] at h
      cases h
  · exfalso
    obtain ⟨q1, p1, p2, p3⟩ := h1
    have g1 := get_of s i 1 (of_decide_eq_true q1)
    match hD : s.data.toList.drop i, g0, g1, h with
    | [], g0, _, _ => cases g0
    | [a], _, g1, _ => cases g1
    | a :: b :: l, g0, g1, h =>
      have e0 : a = s.get! (i + 0) := Option.some.inj g0
      have e1 : b = s.get! (i + 1) := Option.some.inj g1
      rw [← e0] at p1 p2
      rw [← e1] at p3
      rw [one_2 a b l p1 p2 p3] at h
      cases h
  · exfalso
    obtain ⟨q1, q2, p1, p2, p3⟩ := h1
    have g1 := get_of s i 1 (of_decide_eq_true q1)
    have g2 := get_of s i 2 (of_decide_eq_true q2)
    match hD : s.data.toList.drop i, g0, g1, g2, h with
    | [], g0, _, _, _ => cases g0
    | [a], _, g1, _, _ => cases g1
    | [a, b], _, _, g2, _ => cases g2
    | a :: b :: c :: l, g0, g1, g2, h =>
      have e0 : a = s.get! (i + 0) := Option.some.inj g0
      have e1 : b = s.get! (i + 1) := Option.some.inj g1
      have e2 : c = s.get! (i + 2) := Option.some.inj g2
      rw [← e0] at p1 p2 p3
      rw [← e1, ← e2] at p3
      rw [one_3 a b c l p1 p2 p3] at h
      cases h
  · exfalso
    obtain ⟨q1, q2, q3, p1, p2, p3⟩ := h1
    have g1 := get_of s i 1 (of_decide_eq_true q1)
    have g2 := get_of s i 2 (of_decide_eq_true q2)
    have g3 := get_of s i 3 (of_decide_eq_true q3)
    match hD : s.data.toList.drop i, g0, g1, g2, g3, h with
    | [], g0, _, _, _, _ => cases g0
    | [a], _, g1, _, _, _ => cases g1
    | [a, b], _, _, g2, _, _ => cases g2
    | [a, b, c], _, _, _, g3, _ => cases g3
    | a :: b :: c :: d :: l, g0, g1, g2, g3, h =>
      have e0 : a = s.get! (i + 0) := Option.some.inj g0
      have e1 : b = s.get! (i + 1) := Option.some.inj g1
      have e2 : c = s.get! (i + 2) := Option.some.inj g2
      have e3 : d = s.get! (i + 3) := Option.some.inj g3
      rw [← e0] at p1 p2 p3
      rw [← e1, ← e2, ← e3] at p3
      rw [one_4 a b c d l p1 p2 p3] at h
      cases h
/-! ### the list of runes, one by one -/
theorem runes_step {l : List UInt8} {v n : Nat} (h : one l = some (v, n)) : runesL l = (runesL (l.drop n)).map (v :: ·) := by
  obtain ⟨h1, h2, h3⟩ := enc_one h
  cases hr : runesL (l.drop n) with
  | some r =>
    obtain ⟨q1, q2⟩ := (runesL_iff _ _).1 hr
    refine (runesL_iff _ _).2 ⟨?_, ?_⟩
    · intro x hx
      rcases List.mem_cons.1 hx with rfl | hx
      · exact h1
      · exact q1 x hx
    · rw [textL_cons, ← q2]; exact h3
  | none =>
    cases hl : runesL l with
    | none => rfl
    | some r =>
      exfalso
      obtain ⟨q1, q2⟩ := (runesL_iff _ _).1 hl
      cases r with
      | nil => rw [q2, textL_nil] at h; cases h
      | cons v' r =>
        have := one_enc v' (q1 v' (by simp)) (textL r)
        rw [q2, textL_cons, this] at h
        injection h with h
        injection h with e1 e2
        subst e1 e2
        rw [q2, textL_cons] at hr
        have e : (enc v' ++ textL r).drop (enc v').length = textL r := by simp
        rw [e, runesL_text r (fun x hx => q1 x (by simp [hx]))] at hr
        cases hr
theorem runes_stop {l : List UInt8} (hl : l ≠ []) (h : one l = none) : runesL l = none := by
  cases hr : runesL l with
  | none => rfl
  | some r =>
    exfalso
    obtain ⟨q1, q2⟩ := (runesL_iff _ _).1 hr
    cases r with
    | nil => exact hl q2
    | cons v' r =>
      have := one_enc v' (q1 v' (by simp)) (textL r)
      rw [q2, textL_cons, this] at h
      cases h
theorem enc_bad : enc 65533 = [239, 191, 189] := by decide
theorem bad_prefix {l : List UInt8} {n : Nat} (h : one l = some (65533, n)) : ([239, 191, 189] : List UInt8).isPrefixOf l = true := by
  obtain ⟨_, _, h3⟩ := enc_one h
  rw [enc_bad] at h3
  rw [h3]
  exact List.isPrefixOf_iff_prefix.2 ⟨_, rfl⟩
theorem bad_no_prefix {l : List UInt8} (h : one l = none) : ([239, 191, 189] : List UInt8).isPrefixOf l = false := by
  rw [Bool.eq_false_iff]
  intro hp
  obtain ⟨t, ht⟩ := List.isPrefixOf_iff_prefix.1 hp
  have := one_enc 65533 ⟨by decide, by decide⟩ t
  rw [enc_bad] at this
  rw [← ht, this] at h
  cases h
end Go.Proofs.YtcoddeemfdnjpaaDoor.PrepPlain
