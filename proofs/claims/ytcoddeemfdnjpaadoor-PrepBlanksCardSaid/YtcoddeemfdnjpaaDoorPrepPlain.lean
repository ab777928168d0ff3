/- The plain law of texts made ready: runes and their bytes, what is dropped, blank and small, words. -/
import Derived.Test.YtcoddeemfdnjpaaDoorTextPlain
import Derived.Lib.RuneBytes
namespace Go.Proofs.YtcoddeemfdnjpaaDoor.PrepPlain
open Go.Lib
/-- is it a rune? -/
def okR (v : Nat) : Prop := v ≤ 1114111 ∧ ¬ (55296 ≤ v ∧ v ≤ 57343)
/-- a rune's bytes -/
def enc (v : Nat) : List UInt8 :=
  if v < 128 then [UInt8.ofNat v]
  else if v < 2048 then [UInt8.ofNat (192 + v / 64), UInt8.ofNat (128 + v % 64)]
  else if v < 65536 then [UInt8.ofNat (224 + v / 4096), UInt8.ofNat (128 + v / 64 % 64), UInt8.ofNat (128 + v % 64)]
  else [UInt8.ofNat (240 + v / 262144), UInt8.ofNat (128 + v / 4096 % 64), UInt8.ofNat (128 + v / 64 % 64), UInt8.ofNat (128 + v % 64)]
def conB (b : UInt8) : Prop := 128 ≤ b.toNat ∧ b.toNat < 192
instance (b : UInt8) : Decidable (conB b) := inferInstanceAs (Decidable (_ ∧ _))
def v2 (a b : UInt8) : Nat := (a.toNat - 192) * 64 + (b.toNat - 128)
def v3 (a b c : UInt8) : Nat := ((a.toNat - 224) * 64 + (b.toNat - 128)) * 64 + (c.toNat - 128)
def v4 (a b c d : UInt8) : Nat := (((a.toNat - 240) * 64 + (b.toNat - 128)) * 64 + (c.toNat - 128)) * 64 + (d.toNat - 128)
/-- the rune that a list of bytes begins with, and how many bytes it has -/
def one : List UInt8 → Option (Nat × Nat)
  | [] => none
  | a :: l =>
    if a.toNat < 128 then some (a.toNat, 1)
    else if 194 ≤ a.toNat ∧ a.toNat < 224 then
      match l with
      | b :: _ => if conB b then some (v2 a b, 2) else none
      | [] => none
    else if 224 ≤ a.toNat ∧ a.toNat < 240 then
      match l with
      | b :: c :: _ => if conB b ∧ conB c ∧ 2048 ≤ v3 a b c ∧ ¬ (55296 ≤ v3 a b c ∧ v3 a b c ≤ 57343) then some (v3 a b c, 3) else none
      | _ => none
    else if 240 ≤ a.toNat ∧ a.toNat < 245 then
      match l with
      | b :: c :: d :: _ => if conB b ∧ conB c ∧ conB d ∧ 65536 ≤ v4 a b c d ∧ v4 a b c d ≤ 1114111 then some (v4 a b c d, 4) else none
      | _ => none
    else none
theorem one_cons (a : UInt8) (l : List UInt8) : one (a :: l) =
    if a.toNat < 128 then some (a.toNat, 1)
    else if 194 ≤ a.toNat ∧ a.toNat < 224 then
      match l with
      | b :: _ => if conB b then some (v2 a b, 2) else none
      | [] => none
    else if 224 ≤ a.toNat ∧ a.toNat < 240 then
      match l with
      | b :: c :: _ => if conB b ∧ conB c ∧ 2048 ≤ v3 a b c ∧ ¬ (55296 ≤ v3 a b c ∧ v3 a b c ≤ 57343) then some (v3 a b c, 3) else none
      | _ => none
    else if 240 ≤ a.toNat ∧ a.toNat < 245 then
      match l with
      | b :: c :: d :: _ => if conB b ∧ conB c ∧ conB d ∧ 65536 ≤ v4 a b c d ∧ v4 a b c d ≤ 1114111 then some (v4 a b c d, 4) else none
      | _ => none
    else none := rfl
theorem ofNat_is {n : Nat} {a : UInt8} (h : a.toNat = n) : UInt8.ofNat n = a := by subst h; simp
theorem toNat_of {n : Nat} (h : n < 256) : (UInt8.ofNat n).toNat = n := by rw [UInt8.toNat_ofNat']; omega
theorem enc_length (v : Nat) : 1 ≤ (enc v).length ∧ (enc v).length ≤ 4 := by
  unfold enc
  split
  · simp
  · split
    · simp
    · split <;> simp
theorem enc_ne (v : Nat) : enc v ≠ [] := fun h => by have := (enc_length v).1; rw [h] at this; simp at this
/-- what is read is a rune's own bytes -/
theorem enc_one {l : List UInt8} {v n : Nat} (h : one l = some (v, n)) : okR v ∧ n = (enc v).length ∧ l = enc v ++ l.drop n := by
  match l, h with
  | a :: l, h =>
    have ha := a.toNat_lt
    rw [one_cons] at h
    by_cases c1 : a.toNat < 128
    · rw [if_pos c1] at h
      injection h with h
      injection h with h1 h2
      subst h1 h2
      refine ⟨⟨by omega, by omega⟩, ?_⟩
      unfold enc
      rw [if_pos c1, ofNat_is rfl]
      exact ⟨rfl, rfl⟩
    · rw [if_neg c1] at h
      by_cases c2 : 194 ≤ a.toNat ∧ a.toNat < 224
      · rw [if_pos c2] at h
        match l, h with
        | b :: l, h =>
          simp only at h
          by_cases d1 : conB b
          · rw [if_pos d1] at h
            injection h with h
            injection h with h1 h2
            subst h1 h2
            unfold conB at d1
            have hv : v2 a b = (a.toNat - 192) * 64 + (b.toNat - 128) := rfl
            refine ⟨⟨by omega, by omega⟩, ?_⟩
            unfold enc
            rw [if_neg (by omega), if_pos (by omega), ofNat_is (a := a) (by omega), ofNat_is (a := b) (by omega)]
            exact ⟨rfl, rfl⟩
          · rw [if_neg d1] at h; cases h
      · rw [if_neg c2] at h
        by_cases c3 : 224 ≤ a.toNat ∧ a.toNat < 240
        · rw [if_pos c3] at h
          match l, h with
          | b :: c :: l, h =>
            simp only at h
            by_cases d1 : conB b ∧ conB c ∧ 2048 ≤ v3 a b c ∧ ¬ (55296 ≤ v3 a b c ∧ v3 a b c ≤ 57343)
            · rw [if_pos d1] at h
              injection h with h
              injection h with h1 h2
              subst h1 h2
              unfold conB at d1
              have hv : v3 a b c = ((a.toNat - 224) * 64 + (b.toNat - 128)) * 64 + (c.toNat - 128) := rfl
              refine ⟨⟨by omega, by omega⟩, ?_⟩
              unfold enc
              rw [if_neg (by omega), if_neg (by omega), if_pos (by omega), ofNat_is (a := a) (by omega), ofNat_is (a := b) (by omega), ofNat_is (a := c) (by omega)]
              exact ⟨rfl, rfl⟩
            · rw [if_neg d1] at h; cases h
        · rw [if_neg c3] at h
          by_cases c4 : 240 ≤ a.toNat ∧ a.toNat < 245
          · rw [if_pos c4] at h
            match l, h with
            | b :: c :: d :: l, h =>
              simp only at h
              by_cases d1 : conB b ∧ conB c ∧ conB d ∧ 65536 ≤ v4 a b c d ∧ v4 a b c d ≤ 1114111
              · rw [if_pos d1] at h
                injection h with h
                injection h with h1 h2
                subst h1 h2
                unfold conB at d1
                have hv : v4 a b c d = (((a.toNat - 240) * 64 + (b.toNat - 128)) * 64 + (c.toNat - 128)) * 64 + (d.toNat - 128) := rfl
                refine ⟨⟨by omega, by omega⟩, ?_⟩
                unfold enc
                rw [if_neg (by omega), if_neg (by omega), if_neg (by omega), ofNat_is (a := a) (by omega), ofNat_is (a := b) (by omega), ofNat_is (a := c) (by omega), ofNat_is (a := d) (by omega)]
                exact ⟨rfl, rfl⟩
              · rw [if_neg d1] at h; cases h
          · rw [if_neg c4] at h; cases h
theorem one_2 (a b : UInt8) (l : List UInt8) (h1 : 194 ≤ a.toNat) (h2 : a.toNat < 224) (hb : conB b) : one (a :: b :: l) = some (v2 a b, 2) := by
  rw [one_cons, if_neg (by omega), if_pos ⟨h1, h2⟩]
  show (if conB b then some (v2 a b, 2) else none) = _
  rw [if_pos hb]
theorem one_3 (a b c : UInt8) (l : List UInt8) (h1 : 224 ≤ a.toNat) (h2 : a.toNat < 240) (h3 : conB b ∧ conB c ∧ 2048 ≤ v3 a b c ∧ ¬ (55296 ≤ v3 a b c ∧ v3 a b c ≤ 57343)) : one (a :: b :: c :: l) = some (v3 a b c, 3) := by
  rw [one_cons, if_neg (by omega), if_neg (by omega), if_pos ⟨h1, h2⟩]
  show (if conB b ∧ conB c ∧ 2048 ≤ v3 a b c ∧ ¬ (55296 ≤ v3 a b c ∧ v3 a b c ≤ 57343) then some (v3 a b c, 3) else none) = _
  rw [if_pos h3]
theorem one_4 (a b c d : UInt8) (l : List UInt8) (h1 : 240 ≤ a.toNat) (h2 : a.toNat < 245) (h3 : conB b ∧ conB c ∧ conB d ∧ 65536 ≤ v4 a b c d ∧ v4 a b c d ≤ 1114111) : one (a :: b :: c :: d :: l) = some (v4 a b c d, 4) := by
  rw [one_cons, if_neg (by omega), if_neg (by omega), if_neg (by omega), if_pos ⟨h1, h2⟩]
  show (if conB b ∧ conB c ∧ conB d ∧ 65536 ≤ v4 a b c d ∧ v4 a b c d ≤ 1114111 then some (v4 a b c d, 4) else none) = _
  rw [if_pos h3]
/-- a rune's own bytes are read as it -/
theorem one_enc (v : Nat) (hv : okR v) (l : List UInt8) : one (enc v ++ l) = some (v, (enc v).length) := by
  obtain ⟨h1, h2⟩ := hv
  unfold enc
  by_cases c1 : v < 128
  · rw [if_pos c1]
    have ea : (UInt8.ofNat v).toNat = v := toNat_of (by omega)
    obtain ⟨a, ha⟩ : ∃ a, a = UInt8.ofNat v := ⟨_, rfl⟩
    rw [← ha] at ea ⊢
    show one (a :: l) = some (v, 1)
    rw [one_cons, if_pos (by omega), ea]
  · rw [if_neg c1]
    by_cases c2 : v < 2048
    · rw [if_pos c2]
      have ea : (UInt8.ofNat (192 + v / 64)).toNat = 192 + v / 64 := toNat_of (by omega)
      have eb : (UInt8.ofNat (128 + v % 64)).toNat = 128 + v % 64 := toNat_of (by omega)
      obtain ⟨a, ha⟩ : ∃ a, a = UInt8.ofNat (192 + v / 64) := ⟨_, rfl⟩
      obtain ⟨b, hb⟩ : ∃ a, a = UInt8.ofNat (128 + v % 64) := ⟨_, rfl⟩
      rw [← ha] at ea ⊢
      rw [← hb] at eb ⊢
      have e : v2 a b = v := by unfold v2; omega
      show one (a :: b :: l) = some (v, 2)
      rw [one_2 a b l (by omega) (by omega) ⟨by omega, by omega⟩, e]
    · rw [if_neg c2]
      by_cases c3 : v < 65536
      · rw [if_pos c3]
        have ea : (UInt8.ofNat (224 + v / 4096)).toNat = 224 + v / 4096 := toNat_of (by omega)
        have eb : (UInt8.ofNat (128 + v / 64 % 64)).toNat = 128 + v / 64 % 64 := toNat_of (by omega)
        have ec : (UInt8.ofNat (128 + v % 64)).toNat = 128 + v % 64 := toNat_of (by omega)
        obtain ⟨a, ha⟩ : ∃ a, a = UInt8.ofNat (224 + v / 4096) := ⟨_, rfl⟩
        obtain ⟨b, hb⟩ : ∃ a, a = UInt8.ofNat (128 + v / 64 % 64) := ⟨_, rfl⟩
        obtain ⟨c, hc⟩ : ∃ a, a = UInt8.ofNat (128 + v % 64) := ⟨_, rfl⟩
        rw [← ha] at ea ⊢
        rw [← hb] at eb ⊢
        rw [← hc] at ec ⊢
        have e : v3 a b c = v := by unfold v3; omega
        show one (a :: b :: c :: l) = some (v, 3)
        rw [one_3 a b c l (by omega) (by omega) ⟨⟨by omega, by omega⟩, ⟨by omega, by omega⟩, by omega, by omega⟩, e]
      · rw [if_neg c3]
        have ea : (UInt8.ofNat (240 + v / 262144)).toNat = 240 + v / 262144 := toNat_of (by omega)
        have eb : (UInt8.ofNat (128 + v / 4096 % 64)).toNat = 128 + v / 4096 % 64 := toNat_of (by omega)
        have ec : (UInt8.ofNat (128 + v / 64 % 64)).toNat = 128 + v / 64 % 64 := toNat_of (by omega)
        have ed : (UInt8.ofNat (128 + v % 64)).toNat = 128 + v % 64 := toNat_of (by omega)
        obtain ⟨a, ha⟩ : ∃ a, a = UInt8.ofNat (240 + v / 262144) := ⟨_, rfl⟩
        obtain ⟨b, hb⟩ : ∃ a, a = UInt8.ofNat (128 + v / 4096 % 64) := ⟨_, rfl⟩
        obtain ⟨c, hc⟩ : ∃ a, a = UInt8.ofNat (128 + v / 64 % 64) := ⟨_, rfl⟩
        obtain ⟨d, hd⟩ : ∃ a, a = UInt8.ofNat (128 + v % 64) := ⟨_, rfl⟩
        rw [← ha] at ea ⊢
        rw [← hb] at eb ⊢
        rw [← hc] at ec ⊢
        rw [← hd] at ed ⊢
        have e : v4 a b c d = v := by unfold v4; omega
        show one (a :: b :: c :: d :: l) = some (v, 4)
        rw [one_4 a b c d l (by omega) (by omega) ⟨⟨by omega, by omega⟩, ⟨by omega, by omega⟩, ⟨by omega, by omega⟩, by omega, by omega⟩, e]
/-- runes as text -/
def textL (r : List Nat) : List UInt8 := r.flatMap enc
theorem textL_nil : textL [] = [] := rfl
theorem textL_cons (v : Nat) (r : List Nat) : textL (v :: r) = enc v ++ textL r := rfl
theorem textL_append (a b : List Nat) : textL (a ++ b) = textL a ++ textL b := by simp [textL]
/-- a text's runes, if it is one -/
def runesF : Nat → List UInt8 → Option (List Nat)
  | _, [] => some []
  | 0, _ :: _ => none
  | f + 1, a :: l => match one (a :: l) with
    | none => none
    | some (v, n) => (runesF f ((a :: l).drop n)).map (v :: ·)
def runesL (l : List UInt8) : Option (List Nat) := runesF l.length l
theorem runesF_some : ∀ (f : Nat) (l : List UInt8) (r : List Nat), runesF f l = some r → (∀ v ∈ r, okR v) ∧ l = textL r
  | _, [], r, h => by
    have : r = [] := by
      cases ‹Nat› <;> (unfold runesF at h; injection h with h; exact h.symm)
    subst this
    exact ⟨by simp, rfl⟩
  | 0, a :: l, r, h => by simp [runesF] at h
  | f + 1, a :: l, r, h => by
    rw [runesF] at h
    cases ho : one (a :: l) with
    | none => rw [ho] at h; cases h
    | some p =>
      obtain ⟨v, n⟩ := p
      rw [ho] at h
      simp only [Option.map_eq_some_iff] at h
      obtain ⟨r', hr', rfl⟩ := h
      obtain ⟨h1, h2, h3⟩ := enc_one ho
      obtain ⟨h4, h5⟩ := runesF_some f _ r' hr'
      refine ⟨?_, ?_⟩
      · intro x hx
        rcases List.mem_cons.1 hx with rfl | hx
        · exact h1
        · exact h4 x hx
      · rw [textL_cons, ← h5]; exact h3
theorem runesF_text : ∀ (r : List Nat) (f : Nat), (∀ v ∈ r, okR v) → (textL r).length ≤ f → runesF f (textL r) = some r
  | [], f, _, _ => by cases f <;> rfl
  | v :: r, f, h, hf => by
    have h1 := one_enc v (h v (by simp)) (textL r)
    have hl := (enc_length v).1
    rw [textL_cons] at hf ⊢
    rw [List.length_append] at hf
    obtain ⟨f, rfl⟩ : ∃ g, f = g + 1 := ⟨f - 1, by omega⟩
    have ih := runesF_text r f (fun x hx => h x (by simp [hx])) (by omega)
    obtain ⟨a, e, he⟩ : ∃ a e, enc v = a :: e := by
      cases hE : enc v with
      | nil => exact absurd hE (enc_ne v)
      | cons a e => exact ⟨a, e, rfl⟩
    have hd : (enc v ++ textL r).drop (enc v).length = textL r := by simp
    rw [he] at h1 hd ⊢
    show runesF (f + 1) (a :: (e ++ textL r)) = _
    rw [runesF]
    have h1' : one (a :: (e ++ textL r)) = some (v, (a :: e).length) := h1
    have hd' : (a :: (e ++ textL r)).drop (a :: e).length = textL r := hd
    rw [h1']
    simp only
    rw [hd', ih]
    rfl
theorem runesL_iff (l : List UInt8) (r : List Nat) : runesL l = some r ↔ (∀ v ∈ r, okR v) ∧ l = textL r := by
  constructor
  · exact runesF_some _ _ _
  · rintro ⟨h, rfl⟩
    exact runesF_text r _ h (Nat.le_refl _)
theorem runesL_text (r : List Nat) (h : ∀ v ∈ r, okR v) : runesL (textL r) = some r := (runesL_iff _ _).2 ⟨h, rfl⟩
theorem runesL_append {a b : List UInt8} {x y : List Nat} (ha : runesL a = some x) (hb : runesL b = some y) : runesL (a ++ b) = some (x ++ y) := by
  obtain ⟨h1, rfl⟩ := (runesL_iff _ _).1 ha
  obtain ⟨h2, rfl⟩ := (runesL_iff _ _).1 hb
  rw [← textL_append]
  refine runesL_text _ fun v hv => ?_
  rcases List.mem_append.1 hv with h | h
  · exact h1 v h
  · exact h2 v h
/-! ### what is dropped, blank, small -/
def drp (r : Nat) : Bool := decide (r ≤ 8 ∨ (14 ≤ r ∧ r ≤ 31) ∨ (127 ≤ r ∧ r ≤ 132) ∨ (134 ≤ r ∧ r ≤ 159) ∨ r = 173 ∨ (8203 ≤ r ∧ r ≤ 8207) ∨ r = 65279)
def blk (r : Nat) : Bool := decide ((9 ≤ r ∧ r ≤ 13) ∨ r = 32 ∨ r = 133 ∨ r = 160 ∨ r = 5760 ∨ (8192 ≤ r ∧ r ≤ 8202) ∨ r = 8232 ∨ r = 8233 ∨ r = 8239 ∨ r = 8287 ∨ r = 12288)
def sml (r : Nat) : Nat :=
  if (65 ≤ r ∧ r ≤ 90) ∨ (192 ≤ r ∧ r ≤ 222 ∧ r ≠ 215) ∨ (913 ≤ r ∧ r ≤ 937 ∧ r ≠ 930) ∨ (1040 ≤ r ∧ r ≤ 1071) then r + 32
  else if 1024 ≤ r ∧ r ≤ 1039 then r + 80 else r
theorem drp_iff (r : Nat) : drp r = true ↔ (r ≤ 8 ∨ (14 ≤ r ∧ r ≤ 31) ∨ (127 ≤ r ∧ r ≤ 132) ∨ (134 ≤ r ∧ r ≤ 159) ∨ r = 173 ∨ (8203 ≤ r ∧ r ≤ 8207) ∨ r = 65279) := by unfold drp; exact decide_eq_true_iff
theorem blk_iff (r : Nat) : blk r = true ↔ ((9 ≤ r ∧ r ≤ 13) ∨ r = 32 ∨ r = 133 ∨ r = 160 ∨ r = 5760 ∨ (8192 ≤ r ∧ r ≤ 8202) ∨ r = 8232 ∨ r = 8233 ∨ r = 8239 ∨ r = 8287 ∨ r = 12288) := by unfold blk; exact decide_eq_true_iff
/-- what becomes of one rune -/
def mp (fold : Bool) (r : Nat) : Option Nat := if drp r = true then none else if blk r = true then some 32 else if fold = true then some (sml r) else some r
def mapL (fold : Bool) (l : List Nat) : List Nat := l.filterMap (mp fold)
theorem sml_ok (r : Nat) (h : okR r) : okR (sml r) := by
  unfold okR at *
  unfold sml
  split
  · omega
  · split <;> omega
/-- a rune that mapping leaves as it is -/
def Set (fold : Bool) (r : Nat) : Prop := drp r = false ∧ (blk r = true → r = 32) ∧ (fold = true → sml r = r)
theorem set_mp (fold : Bool) (r : Nat) (h : Set fold r) : mp fold r = some r := by
  obtain ⟨h1, h2, h3⟩ := h
  unfold mp
  rw [if_neg (by simp [h1])]
  by_cases c : blk r = true
  · rw [if_pos c, h2 c]
  · rw [if_neg c]
    by_cases f : fold = true
    · rw [if_pos f, h3 f]
    · rw [if_neg f]
theorem sml_keeps (r : Nat) (h1 : ¬ drp r = true) (h2 : ¬ blk r = true) : ¬ drp (sml r) = true ∧ ¬ blk (sml r) = true ∧ sml (sml r) = sml r := by
  rw [drp_iff] at h1 ⊢
  rw [blk_iff] at h2 ⊢
  unfold sml
  by_cases c1 : (65 ≤ r ∧ r ≤ 90) ∨ (192 ≤ r ∧ r ≤ 222 ∧ r ≠ 215) ∨ (913 ≤ r ∧ r ≤ 937 ∧ r ≠ 930) ∨ (1040 ≤ r ∧ r ≤ 1071)
  · rw [if_pos c1]
    refine ⟨by omega, by omega, ?_⟩
    rw [if_neg (by omega), if_neg (by omega)]
  · rw [if_neg c1]
    by_cases c2 : 1024 ≤ r ∧ r ≤ 1039
    · rw [if_pos c2]
      refine ⟨by omega, by omega, ?_⟩
      rw [if_neg (by omega), if_neg (by omega)]
    · rw [if_neg c2, if_neg c1, if_neg c2]
      exact ⟨h1, h2, rfl⟩
theorem mp_set (fold : Bool) (r q : Nat) (h : mp fold r = some q) : Set fold q := by
  unfold mp at h
  by_cases c1 : drp r = true
  · rw [if_pos c1] at h; cases h
  · rw [if_neg c1] at h
    by_cases c2 : blk r = true
    · rw [if_pos c2] at h
      injection h with h
      subst h
      exact ⟨rfl, fun _ => rfl, fun _ => rfl⟩
    · rw [if_neg c2] at h
      by_cases f : fold = true
      · rw [if_pos f] at h
        injection h with h
        subst h
        obtain ⟨k1, k2, k3⟩ := sml_keeps r c1 c2
        exact ⟨by simpa using k1, fun e => absurd e k2, fun _ => k3⟩
      · rw [if_neg f] at h
        injection h with h
        subst h
        exact ⟨by simpa using c1, fun e => absurd e c2, fun e => absurd e f⟩
theorem mp_ok (fold : Bool) (r q : Nat) (hr : okR r) (h : mp fold r = some q) : okR q := by
  unfold mp at h
  by_cases c1 : drp r = true
  · rw [if_pos c1] at h; cases h
  · rw [if_neg c1] at h
    by_cases c2 : blk r = true
    · rw [if_pos c2] at h
      injection h with h
      subst h
      exact ⟨by decide, by decide⟩
    · rw [if_neg c2] at h
      by_cases f : fold = true
      · rw [if_pos f] at h
        injection h with h
        subst h
        exact sml_ok r hr
      · rw [if_neg f] at h
        injection h with h
        subst h
        exact hr
theorem mapL_set (fold : Bool) (l : List Nat) : ∀ q ∈ mapL fold l, Set fold q := by
  intro q hq
  obtain ⟨r, _, hr⟩ := List.mem_filterMap.1 hq
  exact mp_set fold r q hr
theorem mapL_ok (fold : Bool) (l : List Nat) (h : ∀ v ∈ l, okR v) : ∀ q ∈ mapL fold l, okR q := by
  intro q hq
  obtain ⟨r, hr1, hr⟩ := List.mem_filterMap.1 hq
  exact mp_ok fold r q (h r hr1) hr
theorem mapL_fix (fold : Bool) : ∀ (l : List Nat), (∀ q ∈ l, Set fold q) → mapL fold l = l
  | [], _ => rfl
  | q :: l, h => by
    have h1 := set_mp fold q (h q (by simp))
    have h2 := mapL_fix fold l (fun x hx => h x (by simp [hx]))
    unfold mapL at h2 ⊢
    rw [List.filterMap_cons, h1]
    simp only
    rw [h2]
/-- what a settled rune becomes with folding: never dropped, and a blank just if it was one -/
def gs (r : Nat) : Nat := if blk r = true then 32 else sml r
theorem gs_mp (r : Nat) (h : Set false r) : mp true r = some (gs r) := by
  unfold mp gs
  rw [if_neg (by simp [h.1])]
  by_cases c : blk r = true
  · rw [if_pos c, if_pos c]
  · rw [if_neg c, if_neg c, if_pos rfl]
theorem gs_32 (r : Nat) (h : Set false r) : gs r = 32 ↔ r = 32 := by
  unfold gs
  by_cases c : blk r = true
  · rw [if_pos c]
    exact ⟨fun _ => h.2.1 c, fun _ => rfl⟩
  · rw [if_neg c]
    have hd : ¬ drp r = true := by simp [h.1]
    have hs := sml_keeps r hd c
    constructor
    · intro e
      rw [e] at hs
      exact absurd rfl (fun (_ : (32 : Nat) = 32) => hs.2.1 rfl)
    · rintro rfl
      exact absurd rfl c
theorem mp_mp (r : Nat) : (mp false r).bind (mp true) = mp true r := by
  by_cases c1 : drp r = true
  · have e1 : mp false r = none := if_pos c1
    have e2 : mp true r = none := if_pos c1
    rw [e1, e2]; rfl
  · by_cases c2 : blk r = true
    · have e1 : mp false r = some 32 := by unfold mp; rw [if_neg c1, if_pos c2]
      have e2 : mp true r = some 32 := by unfold mp; rw [if_neg c1, if_pos c2]
      rw [e1, e2]; rfl
    · have e1 : mp false r = some r := by unfold mp; rw [if_neg c1, if_neg c2, if_neg (by simp)]
      rw [e1]; rfl
theorem mapL_true_false (l : List Nat) : mapL true (mapL false l) = mapL true l := by
  unfold mapL
  rw [List.filterMap_filterMap]
  congr 1
  funext r
  exact mp_mp r
theorem Set.weak {fold : Bool} {r : Nat} (h : Set fold r) : Set false r := ⟨h.1, h.2.1, fun e => by cases e⟩
theorem mapL_true_any (fold : Bool) (l : List Nat) : mapL true (mapL fold l) = mapL true l := by
  cases fold
  · exact mapL_true_false l
  · exact mapL_fix true _ (mapL_set true l)
theorem mapL_gs : ∀ (l : List Nat), (∀ q ∈ l, Set false q) → mapL true l = l.map gs
  | [], _ => rfl
  | q :: l, h => by
    have h1 := gs_mp q (h q (by simp))
    have h2 := mapL_gs l (fun x hx => h x (by simp [hx]))
    unfold mapL at h2 ⊢
    rw [List.filterMap_cons, h1]
    simp only
    rw [h2]
    rfl
theorem mapL_append (fold : Bool) (a b : List Nat) : mapL fold (a ++ b) = mapL fold a ++ mapL fold b := by simp [mapL]
/-! ### words -/
def joinW {α : Type} (z : α) : List (List α) → List α
  | [] => []
  | [x] => x
  | x :: y :: r => x ++ z :: joinW z (y :: r)
def joinT {α : Type} (z : α) : List (List α) → List α
  | [] => []
  | x :: r => z :: joinW z (x :: r)
theorem joinW_cons {α : Type} (z : α) (x : List α) (ws : List (List α)) : joinW z (x :: ws) = x ++ joinT z ws := by
  cases ws with
  | nil => simp [joinW, joinT]
  | cons y r => simp [joinW, joinT]
theorem joinT_ne {α : Type} (z : α) (ws : List (List α)) (h : ws ≠ []) : joinT z ws = z :: joinW z ws := by
  cases ws with
  | nil => exact absurd rfl h
  | cons x r => rfl
section
variable {α : Type} [DecidableEq α]
def wordsA (z : α) : List α → List α → List (List α)
  | [], acc => if acc = [] then [] else [acc]
  | x :: l, acc => if x = z then (if acc = [] then wordsA z l [] else acc :: wordsA z l []) else wordsA z l (acc ++ [x])
theorem wordsA_nil (z : α) (acc : List α) : wordsA z [] acc = if acc = [] then [] else [acc] := rfl
theorem wordsA_cons (z x : α) (l acc : List α) : wordsA z (x :: l) acc = if x = z then (if acc = [] then wordsA z l [] else acc :: wordsA z l []) else wordsA z l (acc ++ [x]) := rfl
def words (z : α) (l : List α) : List (List α) := wordsA z l []
theorem wordsA_skip (z : α) (e : List α) (he : z ∉ e) : ∀ (l acc : List α), wordsA z (e ++ l) acc = wordsA z l (acc ++ e) := by
  induction e with
  | nil => intro l acc; simp
  | cons x e ih =>
    intro l acc
    have hx : ¬ x = z := fun h => he (by simp [h])
    have := ih (fun h => he (by simp [h])) l (acc ++ [x])
    show wordsA z (x :: (e ++ l)) acc = _
    rw [wordsA, if_neg hx, this, List.append_assoc]
    rfl
theorem wordsA_app (z : α) : ∀ (x y acc : List α), wordsA z (x ++ z :: y) acc = wordsA z x acc ++ words z y
  | [], y, acc => by
    show wordsA z (z :: y) acc = _
    rw [wordsA_cons, if_pos rfl, wordsA_nil]
    by_cases c : acc = []
    · rw [if_pos c, if_pos c]; rfl
    · rw [if_neg c, if_neg c]; rfl
  | a :: x, y, acc => by
    show wordsA z (a :: (x ++ z :: y)) acc = _
    rw [wordsA_cons, wordsA_cons]
    by_cases c : a = z
    · rw [if_pos c, if_pos c, wordsA_app z x y []]
      by_cases d : acc = []
      · rw [if_pos d, if_pos d]
      · rw [if_neg d, if_neg d]; rfl
    · rw [if_neg c, if_neg c, wordsA_app z x y _]
theorem words_app (z : α) (x y : List α) : words z (x ++ z :: y) = words z x ++ words z y := wordsA_app z x y []
theorem words_nil (z : α) : words z [] = [] := by simp [words, wordsA]
theorem words_z (z : α) (y : List α) : words z (z :: y) = words z y := by
  have := words_app z [] y
  rw [words_nil] at this
  exact this
theorem words_zs (z : α) : ∀ (n : Nat) (y : List α), words z (List.replicate n z ++ y) = words z y
  | 0, _ => rfl
  | n + 1, y => by
    rw [List.replicate_succ]
    show words z (z :: (List.replicate n z ++ y)) = _
    rw [words_z, words_zs z n y]
theorem words_app_zs (z : α) (x : List α) (n : Nat) (h : 0 < n) (y : List α) : words z (x ++ (List.replicate n z ++ y)) = words z x ++ words z y := by
  obtain ⟨n, rfl⟩ : ∃ m, n = m + 1 := ⟨n - 1, by omega⟩
  rw [List.replicate_succ]
  show words z (x ++ z :: (List.replicate n z ++ y)) = _
  rw [words_app, words_zs]
/-- each word has something in it, and no blank -/
theorem wordsA_mem (z : α) : ∀ (l acc : List α), z ∉ acc → ∀ w ∈ wordsA z l acc, w ≠ [] ∧ z ∉ w
  | [], acc, h, w, hw => by
    rw [wordsA] at hw
    by_cases c : acc = []
    · rw [if_pos c] at hw; simp at hw
    · rw [if_neg c] at hw
      have := List.mem_singleton.1 hw
      subst this
      exact ⟨c, h⟩
  | x :: l, acc, h, w, hw => by
    rw [wordsA] at hw
    by_cases c : x = z
    · rw [if_pos c] at hw
      by_cases d : acc = []
      · rw [if_pos d] at hw
        exact wordsA_mem z l [] (by simp) w hw
      · rw [if_neg d] at hw
        rcases List.mem_cons.1 hw with rfl | hw
        · exact ⟨d, h⟩
        · exact wordsA_mem z l [] (by simp) w hw
    · rw [if_neg c] at hw
      exact wordsA_mem z l _ (by simp [h, Ne.symm c]) w hw
theorem words_mem (z : α) (l : List α) : ∀ w ∈ words z l, w ≠ [] ∧ z ∉ w := wordsA_mem z l [] (by simp)
theorem words_one (z : α) (w : List α) (h : w ≠ []) (hz : z ∉ w) : words z w = [w] := by
  have := wordsA_skip z w hz [] []
  rw [List.append_nil] at this
  unfold words
  rw [this, wordsA, List.nil_append, if_neg h]
/-- words, joined, are these words -/
theorem words_join (z : α) : ∀ (ws : List (List α)), (∀ w ∈ ws, w ≠ [] ∧ z ∉ w) → words z (joinW z ws) = ws
  | [], _ => words_nil z
  | [x], h => words_one z x (h x (by simp)).1 (h x (by simp)).2
  | x :: y :: r, h => by
    rw [joinW, words_app, words_one z x (h x (by simp)).1 (h x (by simp)).2, words_join z (y :: r) (fun w hw => h w (by simp [hw]))]
    rfl
theorem words_again (z : α) (l : List α) : words z (joinW z (words z l)) = words z l := words_join z _ (words_mem z l)
def headNe (z : α) : List α → Bool
  | [] => false
  | y :: _ => decide (y ≠ z)
/-- the list without blanks ahead, behind, and in a row: as the reference makes it -/
def refR (z : α) : List α → Bool → List α
  | [], _ => []
  | x :: l, b => if x ≠ z ∨ (b = true ∧ headNe z l = true) then x :: refR z l true else refR z l b
theorem wordsA_ne (z : α) : ∀ (l acc : List α), acc ≠ [] → wordsA z l acc ≠ []
  | [], acc, h => by rw [wordsA, if_neg h]; simp
  | x :: l, acc, h => by
    rw [wordsA]
    by_cases c : x = z
    · rw [if_pos c, if_neg h]; simp
    · rw [if_neg c]; exact wordsA_ne z l _ (by simp)
theorem refR_both (z : α) : ∀ l : List α, (refR z (z :: l) true = joinT z (words z l)) ∧ ∀ acc, acc ≠ [] → joinW z (wordsA z l acc) = acc ++ refR z l true
  | [] => by
    refine ⟨by simp [refR, headNe, words, wordsA, joinT], fun acc h => ?_⟩
    rw [wordsA, if_neg h]
    simp [joinW, refR]
  | x :: l => by
    obtain ⟨ih1, ih2⟩ := refR_both z l
    by_cases c : x = z
    · subst c
      refine ⟨?_, fun acc h => ?_⟩
      · rw [words_z, refR, if_neg (by simp [headNe])]
        exact ih1
      · rw [wordsA, if_pos rfl, if_neg h, joinW_cons, ih1]
        rfl
    · refine ⟨?_, fun acc h => ?_⟩
      · have hw : words z (x :: l) = wordsA z l [x] := by
          unfold words
          rw [wordsA, if_neg c]; rfl
        rw [hw, joinT_ne z _ (wordsA_ne z l [x] (by simp)), ih2 [x] (by simp), refR, if_pos (by simp [headNe, c]), refR, if_pos (Or.inl c)]
        rfl
      · rw [wordsA, if_neg c, ih2 _ (by simp), refR, if_pos (Or.inl c)]
        simp
theorem refR_is (z : α) : ∀ l : List α, refR z l false = joinW z (words z l)
  | [] => by simp [refR, words, wordsA, joinW]
  | x :: l => by
    by_cases c : x = z
    · subst c
      rw [words_z, refR, if_neg (by simp)]
      exact refR_is x l
    · have hw : words z (x :: l) = wordsA z l [x] := by
        unfold words
        rw [wordsA, if_neg c]; rfl
      rw [hw, (refR_both z l).2 [x] (by simp), refR, if_pos (Or.inl c)]
      rfl
theorem refR_sub (z : α) : ∀ (l : List α) (b : Bool), (refR z l b).Sublist l
  | [], _ => by simp [refR]
  | x :: l, b => by
    rw [refR]
    split
    · exact (refR_sub z l true).cons_cons x
    · exact (refR_sub z l b).cons x
theorem refR_filter (z : α) : ∀ (l : List α) (b : Bool), (refR z l b).filter (fun x => decide (x ≠ z)) = l.filter (fun x => decide (x ≠ z))
  | [], _ => by simp [refR]
  | x :: l, b => by
    rw [refR]
    by_cases c : x ≠ z
    · rw [if_pos (Or.inl c), List.filter_cons, List.filter_cons, refR_filter z l true]
    · split
      · rw [List.filter_cons, List.filter_cons, refR_filter z l true]
      · rw [List.filter_cons, if_neg (by simpa using c), refR_filter z l b]
theorem joinW_words_sub (z : α) (l : List α) : (joinW z (words z l)).Sublist l := refR_is z l ▸ refR_sub z l false
theorem joinW_words_filter (z : α) (l : List α) : (joinW z (words z l)).filter (fun x => decide (x ≠ z)) = l.filter (fun x => decide (x ≠ z)) := refR_is z l ▸ refR_filter z l false
end
/-- words of what was mapped one by one, if just blanks become blanks -/
theorem wordsA_map {α β : Type} [DecidableEq α] [DecidableEq β] (f : α → β) (z : α) (y : β) : ∀ (l acc : List α), (∀ x ∈ l, f x = y ↔ x = z) → wordsA y (l.map f) (acc.map f) = (wordsA z l acc).map (List.map f)
  | [], acc, h => by
    show wordsA y [] _ = _
    rw [wordsA, wordsA]
    by_cases c : acc = []
    · subst c; rfl
    · rw [if_neg c, if_neg (by simpa using c)]; rfl
  | x :: l, acc, h => by
    have hx := h x (by simp)
    have hl : ∀ q ∈ l, f q = y ↔ q = z := fun q hq => h q (by simp [hq])
    show wordsA y (f x :: l.map f) _ = _
    rw [wordsA, wordsA]
    by_cases c : x = z
    · rw [if_pos c, if_pos (hx.2 c)]
      have ih := wordsA_map f z y l [] hl
      by_cases d : acc = []
      · subst d
        rw [if_pos rfl]
        exact ih
      · rw [if_neg d, if_neg (by simpa using d)]
        show _ = acc.map f :: _
        rw [← ih]; rfl
    · rw [if_neg c, if_neg (fun e => c (hx.1 e)), ← wordsA_map f z y l (acc ++ [x]) hl, List.map_append]
      rfl
theorem words_map {α β : Type} [DecidableEq α] [DecidableEq β] (f : α → β) (z : α) (y : β) (l : List α) (h : ∀ x ∈ l, f x = y ↔ x = z) : words y (l.map f) = (words z l).map (List.map f) := wordsA_map f z y l [] h
/-! ### runes' bytes and words -/
theorem enc_small (v : Nat) (h : v < 128) : enc v = [UInt8.ofNat v] := by unfold enc; rw [if_pos h]
theorem enc_high (v : Nat) (hv : okR v) (h : ¬ v < 128) : ∀ b ∈ enc v, 128 ≤ b.toNat := by
  obtain ⟨h1, h2⟩ := hv
  intro b hb
  unfold enc at hb
  rw [if_neg h] at hb
  by_cases c1 : v < 2048
  · rw [if_pos c1] at hb
    simp only [List.mem_cons, List.not_mem_nil, or_false] at hb
    rcases hb with rfl | rfl <;> rw [toNat_of (by omega)] <;> omega
  · rw [if_neg c1] at hb
    by_cases c2 : v < 65536
    · rw [if_pos c2] at hb
      simp only [List.mem_cons, List.not_mem_nil, or_false] at hb
      rcases hb with rfl | rfl | rfl <;> rw [toNat_of (by omega)] <;> omega
    · rw [if_neg c2] at hb
      simp only [List.mem_cons, List.not_mem_nil, or_false] at hb
      rcases hb with rfl | rfl | rfl | rfl <;> rw [toNat_of (by omega)] <;> omega
theorem enc_no (v c : Nat) (hv : okR v) (hc : c < 128) (h : v ≠ c) : UInt8.ofNat c ∉ enc v := by
  intro hm
  by_cases hs : v < 128
  · rw [enc_small v hs] at hm
    have e := List.mem_singleton.1 hm
    have := congrArg UInt8.toNat e
    rw [toNat_of (by omega), toNat_of (by omega)] at this
    exact h this.symm
  · have := enc_high v hv hs _ hm
    rw [toNat_of (by omega)] at this
    omega
theorem textL_ne (l : List Nat) : textL l = [] ↔ l = [] := by
  cases l with
  | nil => simp [textL]
  | cons v l => simp [textL_cons, enc_ne]
theorem wordsA_text : ∀ (l acc : List Nat), (∀ v ∈ l, okR v) → wordsA (32 : UInt8) (textL l) (textL acc) = (wordsA 32 l acc).map textL
  | [], acc, _ => by
    rw [textL_nil, wordsA, wordsA]
    by_cases c : acc = []
    · rw [if_pos c, if_pos ((textL_ne acc).2 c)]; rfl
    · rw [if_neg c, if_neg (fun h => c ((textL_ne acc).1 h))]; rfl
  | v :: l, acc, h => by
    have hl : ∀ x ∈ l, okR x := fun x hx => h x (by simp [hx])
    rw [textL_cons, wordsA]
    by_cases c : v = 32
    · subst c
      rw [if_pos rfl, enc_small 32 (by decide)]
      show wordsA (32 : UInt8) ((32 : UInt8) :: textL l) _ = _
      rw [wordsA, if_pos rfl]
      have ih := wordsA_text l [] hl
      rw [textL_nil] at ih
      by_cases d : acc = []
      · rw [if_pos d, if_pos ((textL_ne acc).2 d)]; exact ih
      · rw [if_neg d, if_neg (fun h => d ((textL_ne acc).1 h)), ih]; rfl
    · rw [if_neg c, wordsA_skip (32 : UInt8) (enc v) (enc_no v 32 (h v (by simp)) (by decide) c)]
      have e : textL acc ++ enc v = textL (acc ++ [v]) := by rw [textL_append]; simp [textL]
      rw [e]
      exact wordsA_text l _ hl
theorem words_text (l : List Nat) (h : ∀ v ∈ l, okR v) : words (32 : UInt8) (textL l) = (words 32 l).map textL := wordsA_text l [] h
theorem joinW_text : ∀ ws : List (List Nat), joinW (32 : UInt8) (ws.map textL) = textL (joinW 32 ws)
  | [] => rfl
  | [x] => rfl
  | x :: y :: r => by
    show textL x ++ (32 : UInt8) :: joinW (32 : UInt8) ((y :: r).map textL) = textL (x ++ 32 :: joinW 32 (y :: r))
    rw [joinW_text (y :: r), textL_append, textL_cons, enc_small 32 (by decide)]
    rfl
theorem text_filter (c : Nat) (hc : c < 128) : ∀ l : List Nat, (∀ v ∈ l, okR v) → (textL l).filter (fun x => decide (x ≠ UInt8.ofNat c)) = textL (l.filter (fun x => decide (x ≠ c)))
  | [], _ => rfl
  | v :: l, h => by
    have ih := text_filter c hc l (fun x hx => h x (by simp [hx]))
    rw [textL_cons, List.filter_append, ih, List.filter_cons]
    by_cases d : v = c
    · subst d
      rw [if_neg (by simp), enc_small v hc]
      simp
    · rw [if_pos (by simpa using d), textL_cons]
      congr 1
      rw [List.filter_eq_self]
      intro b hb
      have hn := enc_no v c (h v (by simp)) hc d
      simp only [ne_eq, decide_not, Bool.not_eq_eq_eq_not, Bool.not_true, decide_eq_false_iff_not]
      rintro rfl
      exact hn hb
theorem text_len_map (fold : Bool) : ∀ l : List Nat, (∀ v ∈ l, okR v) → (textL (mapL fold l)).length ≤ (textL l).length
  | [], _ => Nat.le_refl _
  | v :: l, h => by
    have ih := text_len_map fold l (fun x hx => h x (by simp [hx]))
    have hv := h v (by simp)
    rw [textL_cons, List.length_append]
    unfold mapL at ih ⊢
    rw [List.filterMap_cons]
    cases hm : mp fold v with
    | none => simp only; omega
    | some q =>
      simp only
      rw [textL_cons, List.length_append]
      have hq : (enc q).length ≤ (enc v).length := by
        have h1 := (enc_length v).1
        unfold mp at hm
        by_cases c1 : drp v = true
        · rw [if_pos c1] at hm; cases hm
        · rw [if_neg c1] at hm
          by_cases c2 : blk v = true
          · rw [if_pos c2] at hm
            injection hm with hm
            subst hm
            exact h1
          · rw [if_neg c2] at hm
            by_cases f : fold = true
            · rw [if_pos f] at hm
              injection hm with hm
              subst hm
              unfold sml
              by_cases k1 : (65 ≤ v ∧ v ≤ 90) ∨ (192 ≤ v ∧ v ≤ 222 ∧ v ≠ 215) ∨ (913 ≤ v ∧ v ≤ 937 ∧ v ≠ 930) ∨ (1040 ≤ v ∧ v ≤ 1071)
              · rw [if_pos k1]
                by_cases k2 : v < 128
                · rw [enc_small v k2, enc_small (v + 32) (by omega)]; exact Nat.le_refl _
                · unfold enc
                  rw [if_neg (by omega), if_pos (by omega), if_neg (by omega), if_pos (by omega)]
                  exact Nat.le_refl _
              · rw [if_neg k1]
                by_cases k3 : 1024 ≤ v ∧ v ≤ 1039
                · rw [if_pos k3]
                  unfold enc
                  rw [if_neg (by omega), if_pos (by omega), if_neg (by omega), if_pos (by omega)]
                  exact Nat.le_refl _
                · rw [if_neg k3]; exact Nat.le_refl _
            · rw [if_neg f] at hm
              injection hm with hm
              subst hm
              exact Nat.le_refl _
      omega
theorem text_len_sub {a b : List Nat} (h : a.Sublist b) : (textL a).length ≤ (textL b).length := by
  induction h with
  | slnil => exact Nat.le_refl _
  | cons x _ ih => rw [textL_cons, List.length_append]; omega
  | cons_cons x _ ih => rw [textL_cons, textL_cons, List.length_append, List.length_append]; omega
/-! ### what the functions tell -/
def mapT (fold : Bool) (s : List UInt8) : Option (List UInt8) := (runesL s).map fun l => textL (mapL fold l)
def readyT (fold : Bool) (s : List UInt8) : Option (List UInt8) := (runesL s).map fun l => textL (joinW 32 (words 32 (mapL fold l)))
def phoneT (s : List UInt8) : Option (List UInt8) := (runesL s).map fun l => textL ((mapL true l).filter fun x => decide (x ≠ 32 ∧ x ≠ 45))
def sameT (a b : List UInt8) : Bool := match readyT true a, readyT true b with
  | some x, some y => decide (x = y)
  | _, _ => false
theorem sub_ok {a b : List Nat} (h : a.Sublist b) (hb : ∀ v ∈ b, okR v) : ∀ v ∈ a, okR v := fun v hv => hb v (h.subset hv)
/-- a text mapped, its words joined: the text made ready -/
theorem ready_of_map (fold : Bool) (s t : List UInt8) (h : mapT fold s = some t) : readyT fold s = some (joinW 32 (words 32 t)) := by
  unfold mapT at h
  rw [Option.map_eq_some_iff] at h
  obtain ⟨l, hl, rfl⟩ := h
  have hok := ((runesL_iff _ _).1 hl).1
  unfold readyT
  rw [hl, Option.map_some, words_text _ (mapL_ok fold l hok), joinW_text]
theorem ready_none (fold : Bool) (s : List UInt8) (h : mapT fold s = none) : readyT fold s = none := by
  unfold mapT at h
  unfold readyT
  rw [Option.map_eq_none_iff] at h ⊢
  exact h
theorem phone_of_ready (s t : List UInt8) (h : readyT true s = some t) : phoneT s = some ((t.filter fun x => decide (x ≠ 32)).filter fun x => decide (x ≠ 45)) := by
  unfold readyT at h
  rw [Option.map_eq_some_iff] at h
  obtain ⟨l, hl, rfl⟩ := h
  have hok := mapL_ok true l ((runesL_iff _ _).1 hl).1
  have hs := joinW_words_sub 32 (mapL true l)
  have e1 := text_filter 32 (by decide) _ (sub_ok hs hok)
  rw [joinW_words_filter] at e1
  have e2 := text_filter 45 (by decide) ((mapL true l).filter fun x => decide (x ≠ 32)) (sub_ok List.filter_sublist hok)
  unfold phoneT
  rw [hl, Option.map_some]
  have e1' : (textL (joinW 32 (words 32 (mapL true l)))).filter (fun x => decide (x ≠ (32 : UInt8))) = textL ((mapL true l).filter fun x => decide (x ≠ 32)) := e1
  rw [e1']
  have e2' : (textL ((mapL true l).filter fun x => decide (x ≠ 32))).filter (fun x => decide (x ≠ (45 : UInt8))) = textL (((mapL true l).filter fun x => decide (x ≠ 32)).filter fun x => decide (x ≠ 45)) := e2
  rw [e2', List.filter_filter]
  congr 3
  funext x
  by_cases c1 : x = 32 <;> by_cases c2 : x = 45 <;> simp [c1, c2]
/-- THE LAW (PrepOnce): what is ready stays so, and is no longer than it was -/
theorem once (fold : Bool) (s a : List UInt8) (h : readyT fold s = some a) : readyT fold a = some a ∧ a.length ≤ s.length ∧ readyT true a = readyT true s := by
  unfold readyT at h
  rw [Option.map_eq_some_iff] at h
  obtain ⟨l, hl, rfl⟩ := h
  obtain ⟨hok, rfl⟩ := (runesL_iff _ _).1 hl
  have hmo := mapL_ok fold l hok
  have hsub := joinW_words_sub 32 (mapL fold l)
  have hko := sub_ok hsub hmo
  have hks : ∀ q ∈ joinW 32 (words 32 (mapL fold l)), Set fold q := fun q hq => mapL_set fold l q (hsub.subset hq)
  have hr := runesL_text _ hko
  refine ⟨?_, ?_, ?_⟩
  · unfold readyT
    rw [hr, Option.map_some, mapL_fix fold _ hks, words_again]
  · exact Nat.le_trans (text_len_sub hsub) (text_len_map fold l hok)
  · unfold readyT
    rw [hr, hl, Option.map_some, Option.map_some]
    have hw1 : ∀ q ∈ joinW 32 (words 32 (mapL fold l)), Set false q := fun q hq => (hks q hq).weak
    have hw2 : ∀ q ∈ mapL fold l, Set false q := fun q hq => (mapL_set fold l q hq).weak
    rw [mapL_gs _ hw1, words_map gs 32 32 _ (fun x hx => gs_32 x (hw1 x hx)), words_again, ← words_map gs 32 32 _ (fun x hx => gs_32 x (hw2 x hx)), ← mapL_gs _ hw2, mapL_true_any]
theorem same_once (fold : Bool) (s a : List UInt8) (h : readyT fold s = some a) : sameT s a = true := by
  obtain ⟨_, _, h3⟩ := once fold s a h
  have hs : ∃ x, readyT true s = some x := by
    unfold readyT at h ⊢
    rw [Option.map_eq_some_iff] at h
    obtain ⟨l, hl, _⟩ := h
    rw [hl]
    exact ⟨_, rfl⟩
  obtain ⟨x, hx⟩ := hs
  unfold sameT
  rw [h3, hx]
  simp
/-- so many blanks and runes that are dropped -/
def blanksR : Nat → List Nat
  | 0 => [32]
  | k + 1 => blanksR k ++ [160, 8203, 9]
theorem blanksR_ok : ∀ k, ∀ v ∈ blanksR k, okR v
  | 0, v, h => by
    have := List.mem_singleton.1 h
    subst this
    exact ⟨by decide, by decide⟩
  | k + 1, v, h => by
    rcases List.mem_append.1 h with h | h
    · exact blanksR_ok k v h
    · simp only [List.mem_cons, List.not_mem_nil, or_false] at h
      rcases h with rfl | rfl | rfl <;> exact ⟨by decide, by decide⟩
theorem blanksR_map : ∀ k, mapL true (blanksR k) = List.replicate (2 * k + 1) 32
  | 0 => by rfl
  | k + 1 => by
    show mapL true (blanksR k ++ [160, 8203, 9]) = _
    have e : mapL true [160, 8203, 9] = List.replicate 2 32 := rfl
    rw [mapL_append, blanksR_map k, e, List.replicate_append_replicate, show 2 * (k + 1) + 1 = 2 * k + 1 + 2 by omega]
/-- THE LAW (PrepBlanks) -/
theorem blanks (k : Nat) (a b : List UInt8) (x y : List Nat) (ha : runesL a = some x) (hb : runesL b = some y) :
    sameT (textL (blanksR k) ++ a ++ textL (blanksR k) ++ b ++ textL (blanksR k)) (a ++ [32] ++ b) = true := by
  have hB := runesL_text _ (blanksR_ok k)
  have h32 : runesL [32] = some [32] := by decide
  have h1 := runesL_append (runesL_append (runesL_append (runesL_append hB ha) hB) hb) hB
  have h2 := runesL_append (runesL_append ha h32) hb
  have hw : words 32 (mapL true (blanksR k ++ x ++ blanksR k ++ y ++ blanksR k)) = words 32 (mapL true (x ++ [32] ++ y)) := by
    simp only [mapL_append, blanksR_map, List.append_assoc]
    rw [words_zs, words_app_zs 32 _ _ (by omega)]
    have e1 := words_app_zs 32 (mapL true y) (2 * k + 1) (by omega) []
    rw [List.append_nil, words_nil, List.append_nil] at e1
    rw [e1]
    have e2 : mapL true [32] = [32] := rfl
    rw [e2]
    exact (words_app 32 _ _).symm
  unfold sameT readyT
  rw [h1, h2, Option.map_some, Option.map_some, hw]
  simp
theorem same_iff (a b : List UInt8) : sameT a b = true ↔ ∃ x, readyT true a = some x ∧ readyT true b = some x := by
  unfold sameT
  cases ha : readyT true a with
  | none => simp
  | some x => cases hb : readyT true b with
    | none => simp
    | some y =>
      simp only [decide_eq_true_iff, Option.some.injEq]
      constructor
      · rintro rfl; exact ⟨_, rfl, rfl⟩
      · rintro ⟨_, rfl, rfl⟩; rfl
theorem same_comm (a b : List UInt8) : sameT a b = sameT b a := by
  rw [Bool.eq_iff_iff, same_iff, same_iff]
  exact ⟨fun ⟨x, h1, h2⟩ => ⟨x, h2, h1⟩, fun ⟨x, h1, h2⟩ => ⟨x, h2, h1⟩⟩
theorem same_trans (a b c : List UInt8) (h1 : sameT a b = true) (h2 : sameT b c = true) : sameT a c = true := by
  rw [same_iff] at *
  obtain ⟨x, p, q⟩ := h1
  obtain ⟨y, r, t⟩ := h2
  rw [q] at r
  injection r with r
  subst r
  exact ⟨x, p, t⟩
theorem same_self (a : List UInt8) : sameT a a = (readyT true a).isSome := by
  rw [Bool.eq_iff_iff, same_iff, Option.isSome_iff_exists]
  exact ⟨fun ⟨x, h, _⟩ => ⟨x, h⟩, fun ⟨x, h⟩ => ⟨x, h, h⟩⟩
/-! ### what the library's functions tell of bytes -/
theorem split_words : ∀ (l acc x : List UInt8) (r : List (List UInt8)), split l [32] = x :: r → wordsA (32 : UInt8) l acc = ((acc ++ x) :: r).filter (fun w => decide (w ≠ []))
  | [], acc, x, r, h => by
    rw [TextPlain.split_nil [32] (by simp)] at h
    injection h with h1 h2
    subst h1 h2
    rw [wordsA, List.append_nil]
    by_cases c : acc = []
    · rw [if_pos c, c]; rfl
    · rw [if_neg c, List.filter_cons, if_pos (by simpa using c)]; rfl
  | b :: l, acc, x, r, h => by
    rw [wordsA]
    obtain ⟨x', r', hx'⟩ : ∃ x' r', split l [32] = x' :: r' := by
      cases l with
      | nil => exact ⟨_, _, TextPlain.split_nil [32] (by simp)⟩
      | cons c l =>
        by_cases hp : ([32] : List UInt8).isPrefixOf (c :: l) = true
        · exact ⟨_, _, TextPlain.split_hit [32] (by simp) c l hp⟩
        · obtain ⟨x, r, _, h2⟩ := TextPlain.split_miss [32] (by simp) c l (Bool.eq_false_iff.2 hp)
          exact ⟨_, _, h2⟩
    by_cases c : b = 32
    · subst c
      have hp : ([32] : List UInt8).isPrefixOf (32 :: l) = true := by simp [List.isPrefixOf]
      rw [TextPlain.split_hit [32] (by simp) 32 l hp] at h
      injection h with h1 h2
      have h2' : split l [32] = r := h2
      subst h1
      rw [if_pos rfl, List.append_nil]
      have ih := split_words l [] x' r' hx'
      rw [List.nil_append, ← hx', h2'] at ih
      rw [ih]
      by_cases d : acc = []
      · rw [if_pos d, List.filter_cons, if_neg (by simpa using d)]
      · rw [if_neg d, List.filter_cons, if_pos (by simpa using d)]
    · have hp : ([32] : List UInt8).isPrefixOf (b :: l) = false := by
        simp [List.isPrefixOf]
        exact fun e => c e.symm
      obtain ⟨x2, r2, h1, h2⟩ := TextPlain.split_miss [32] (by simp) b l hp
      rw [h2] at h
      injection h with h3 h4
      subst h3 h4
      rw [if_neg c, split_words l (acc ++ [b]) x2 r2 h1]
      simp
theorem words_split (l : List UInt8) : words (32 : UInt8) l = (split l [32]).filter (fun w => decide (w ≠ [])) := by
  cases h : split l [32] with
  | nil =>
    exfalso
    cases l with
    | nil => rw [TextPlain.split_nil [32] (by simp)] at h; cases h
    | cons c l =>
      by_cases hp : ([32] : List UInt8).isPrefixOf (c :: l) = true
      · rw [TextPlain.split_hit [32] (by simp) c l hp] at h; cases h
      · obtain ⟨x, r, _, h2⟩ := TextPlain.split_miss [32] (by simp) c l (Bool.eq_false_iff.2 hp)
        rw [h2] at h; cases h
  | cons x r =>
    have := split_words l [] x r h
    rw [List.nil_append] at this
    exact this
theorem join_is : ∀ ws : List (List UInt8), join ws [32] = joinW (32 : UInt8) ws
  | [] => rfl
  | x :: ws => by
    rw [join_cons, joinW_cons]
    congr 1
    cases ws with
    | nil => rfl
    | cons y r =>
      show _ = (32 : UInt8) :: joinW (32 : UInt8) (y :: r)
      rw [← join_is (y :: r), join_cons]
      simp [joinTail]
theorem rep_filter (c : UInt8) : ∀ l : List UInt8, replaceAll l [c] [] = l.filter (fun x => decide (x ≠ c))
  | [] => TextPlain.rep_nil [c] [] (by simp) (by simp)
  | b :: l => by
    by_cases h : b = c
    · subst h
      rw [TextPlain.rep_hit [b] [] (by simp) (by simp) b l (by simp [List.isPrefixOf])]
      simp [rep_filter b l]
    · rw [TextPlain.rep_miss [c] [] (by simp) (by simp) b l (by simp [List.isPrefixOf]; exact fun e => h e.symm), rep_filter c l, List.filter_cons, if_pos (by simpa using h)]
end Go.Proofs.YtcoddeemfdnjpaaDoor.PrepPlain
