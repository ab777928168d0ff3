/- The plain law of the reference's prep: its printed functions tell what the plain law tells. -/
import Derived.Test.YtcoddeemfdnjpaaDoorReadyWalk
import Derived.Test.YtcoddeemfdnjpaaDoorRefPrepA
namespace Go.Proofs.YtcoddeemfdnjpaaDoor.PrepPlain
open Go.RowKit
open Go.Proofs.YtcoddeemfdnjpaaDoorW.PrintMore
open Go.Proofs.YtcoddeemfdnjpaaDoorW.PrintWords hiding nums nums_length nums_append
/-! ### One -/
theorem bt_is (s : ByteArray) (i k : Nat) (x : UInt8) (h : (s.data.toList.drop i)[k]? = some x) : bt s (((i + k : Nat)) : Int) = (x.toNat : Int) := by
  rw [List.getElem?_drop, Array.getElem?_toList] at h
  obtain ⟨h1, h2⟩ := Array.getElem?_eq_some_iff.1 h
  have hs : i + k < s.size := h1
  unfold bt
  rw [Int.toNat_natCast, dif_pos hs]
  show ((s.data[i + k]'h1).toNat : Int) = _
  rw [h2]
theorem drop_len (s : ByteArray) (i : Nat) : (s.data.toList.drop i).length = s.size - i := by
  rw [List.length_drop]; rfl
def okB (v low : Nat) : Prop := low ≤ v ∧ v ≤ 1114111 ∧ ¬ (55296 ≤ v ∧ v ≤ 57343)
instance (v low : Nat) : Decidable (okB v low) := inferInstanceAs (Decidable (_ ∧ _))
theorem one_end (k : Nat) (s : ByteArray) (i n v low : Nat) : Fn.rollbookref13_One.l0 (k + 1) s (i : Int) (n : Int) (v : Int) (low : Int) (n : Int) = if okB v low then some ((v : Int), (n : Int)) else some (0, 0) := by
  have hk : okB v low ↔ low ≤ v ∧ v ≤ 1114111 ∧ ¬ (55296 ≤ v ∧ v ≤ 57343) := Iff.rfl
  rw [Fn.rollbookref13_One.l0, if_neg (by omega)]
  by_cases c1 : v < low
  · rw [if_pos (by omega), if_neg (fun h => by have := hk.1 h; omega)]
  · rw [if_neg (by omega)]
    by_cases c2 : v > 1114111
    · rw [if_pos (by omega), if_neg (fun h => by have := hk.1 h; omega)]
    · rw [if_neg (by omega)]
      by_cases c3 : 55296 ≤ v
      · rw [if_pos (by omega)]
        by_cases c4 : v ≤ 57343
        · rw [if_pos (by omega), if_neg (fun h => by have := hk.1 h; omega)]
        · rw [if_neg (by omega), if_pos (hk.2 (by omega))]
      · rw [if_neg (by omega), if_pos (hk.2 (by omega))]
theorem one_step (k : Nat) (s : ByteArray) (i n v low j : Nat) (x : UInt8) (hi : s.size ≤ 100000) (hj : j < n) (hv : v ≤ 1000000000) (h : (s.data.toList.drop i)[j]? = some x) :
    Fn.rollbookref13_One.l0 (k + 1) s (i : Int) (n : Int) (v : Int) (low : Int) (j : Int) = if conB x then Fn.rollbookref13_One.l0 k s (i : Int) (n : Int) ((v * 64 + (x.toNat - 128) : Nat) : Int) (low : Int) ((j + 1 : Nat) : Int) else some (0, 0) := by
  have hlen := List.getElem?_eq_some_iff.1 h |>.1
  rw [drop_len] at hlen
  have hx := x.toNat_lt
  have e1 : wrap64 ((i : Int) + (j : Int)) = ((i + j : Nat) : Int) := by unfold wrap64; omega
  have p1 : (j : Int) < (n : Int) := by omega
  have p2 : (0 : Int) ≤ ((i + j : Nat) : Int) := by omega
  have p3 : ((i + j : Nat) : Int) < (s.size : Int) := by omega
  have e3 : wrap64 (x.toNat : Int) = (x.toNat : Int) := by unfold wrap64; omega
  have e4 : wrap64 ((j : Int) + 1) = ((j + 1 : Nat) : Int) := by unfold wrap64; omega
  rw [Fn.rollbookref13_One.l0, if_pos p1, e1, bt_is s i j x h, e3, e4, if_pos p2, if_pos p3]
  clear e1 e3 e4
  have hk : conB x ↔ 128 ≤ x.toNat ∧ x.toNat < 192 := Iff.rfl
  by_cases c1 : x.toNat < 128
  · rw [if_pos (show (x.toNat : Int) < 128 by omega), if_neg (fun h => by have := hk.1 h; omega)]
  · rw [if_neg (show ¬ (x.toNat : Int) < 128 by omega)]
    by_cases c2 : x.toNat > 191
    · rw [if_pos (show (x.toNat : Int) > 191 by omega), if_neg (fun h => by have := hk.1 h; omega)]
    · rw [if_neg (show ¬ (x.toNat : Int) > 191 by omega), if_pos (hk.2 (by omega))]
      have e5 : wrap64 (wrap64 (wrap64 ((v : Int) * 64) + (x.toNat : Int)) - 128) = ((v * 64 + (x.toNat - 128) : Nat) : Int) := by
        have a1 : wrap64 ((v : Int) * 64) = ((v * 64 : Nat) : Int) := by unfold wrap64; omega
        rw [a1]
        have a2 : wrap64 (((v * 64 : Nat) : Int) + (x.toNat : Int)) = ((v * 64 + x.toNat : Nat) : Int) := by unfold wrap64; omega
        rw [a2]
        unfold wrap64
        omega
      rw [e5]
/-- what the first byte says -/
theorem one_head (k : Nat) (s : ByteArray) (i c n v low : Nat) (hc : c < 256)
    (h : (194 ≤ c ∧ c < 224 ∧ n = 2 ∧ v = c - 192 ∧ low = 128) ∨ (224 ≤ c ∧ c < 240 ∧ n = 3 ∧ v = c - 224 ∧ low = 2048) ∨ (240 ≤ c ∧ c < 245 ∧ n = 4 ∧ v = c - 240 ∧ low = 65536) ∨ ((c < 194 ∨ 245 ≤ c) ∧ n = 0 ∧ v = 0 ∧ low = 0)) :
    (if (c : Int) ≥ 194 then Fn.rollbookref13_One.j0 (k + 5) s (i : Int) (c : Int) 0 0 0 (decide ((c : Int) < 224)) else Fn.rollbookref13_One.j0 (k + 5) s (i : Int) (c : Int) 0 0 0 false) = Fn.rollbookref13_One.j5 k s (i : Int) (n : Int) (v : Int) (low : Int) := by
  have w1 : wrap64 ((c : Int) - 192) = (c : Int) - 192 := by unfold wrap64; omega
  have w2 : wrap64 ((c : Int) - 224) = (c : Int) - 224 := by unfold wrap64; omega
  have w3 : wrap64 ((c : Int) - 240) = (c : Int) - 240 := by unfold wrap64; omega
  have j3 : ∀ a b d : Int, ¬ (c : Int) ≥ 240 → Fn.rollbookref13_One.j3 (k + 2) s (i : Int) (c : Int) a b d = Fn.rollbookref13_One.j5 k s (i : Int) a b d := by
    intro a b d hn
    rw [Fn.rollbookref13_One.j3, if_neg hn, Fn.rollbookref13_One.j4, if_neg (by decide)]
  have j1 : ∀ a b d : Int, ¬ (c : Int) ≥ 224 → Fn.rollbookref13_One.j1 (k + 4) s (i : Int) (c : Int) a b d = Fn.rollbookref13_One.j5 k s (i : Int) a b d := by
    intro a b d hn
    rw [Fn.rollbookref13_One.j1, if_neg hn, Fn.rollbookref13_One.j2, if_neg (by decide)]
    exact j3 a b d (by omega)
  rcases h with ⟨h1, h2, q1, q2, q3⟩ | ⟨h1, h2, q1, q2, q3⟩ | ⟨h1, h2, q1, q2, q3⟩ | ⟨h1, q1, q2, q3⟩
  · have g1 : (c : Int) ≥ 194 := by omega
    have g2 : decide ((c : Int) < 224) = true := decide_eq_true (by omega)
    have g3 : ¬ (c : Int) ≥ 224 := by omega
    have g4 : (c : Int) - 192 = ((c - 192 : Nat) : Int) := by omega
    rw [if_pos g1, g2, Fn.rollbookref13_One.j0, if_pos rfl, w1, j1 _ _ _ g3, g4, q1, q2, q3]
    rfl
  · have g1 : (c : Int) ≥ 194 := by omega
    have g2 : decide ((c : Int) < 224) = false := decide_eq_false (by omega)
    have g3 : (c : Int) ≥ 224 := by omega
    have g4 : decide ((c : Int) < 240) = true := decide_eq_true (by omega)
    have g5 : ¬ (c : Int) ≥ 240 := by omega
    have g6 : (c : Int) - 224 = ((c - 224 : Nat) : Int) := by omega
    rw [if_pos g1, g2, Fn.rollbookref13_One.j0, if_neg Bool.false_ne_true, Fn.rollbookref13_One.j1, if_pos g3, g4, Fn.rollbookref13_One.j2, if_pos rfl, w2, j3 _ _ _ g5, g6, q1, q2, q3]
    rfl
  · have g1 : (c : Int) ≥ 194 := by omega
    have g2 : decide ((c : Int) < 224) = false := decide_eq_false (by omega)
    have g3 : (c : Int) ≥ 224 := by omega
    have g4 : decide ((c : Int) < 240) = false := decide_eq_false (by omega)
    have g5 : (c : Int) ≥ 240 := by omega
    have g7 : decide ((c : Int) < 245) = true := decide_eq_true (by omega)
    have g6 : (c : Int) - 240 = ((c - 240 : Nat) : Int) := by omega
    rw [if_pos g1, g2, Fn.rollbookref13_One.j0, if_neg Bool.false_ne_true, Fn.rollbookref13_One.j1, if_pos g3, g4, Fn.rollbookref13_One.j2, if_neg Bool.false_ne_true, Fn.rollbookref13_One.j3, if_pos g5, g7, Fn.rollbookref13_One.j4, if_pos rfl, w3, g6, q1, q2, q3]
    rfl
  · by_cases c1 : (c : Int) ≥ 194
    · have g2 : decide ((c : Int) < 224) = false := decide_eq_false (by omega)
      have g3 : (c : Int) ≥ 224 := by omega
      have g4 : decide ((c : Int) < 240) = false := decide_eq_false (by omega)
      have g5 : (c : Int) ≥ 240 := by omega
      have g7 : decide ((c : Int) < 245) = false := decide_eq_false (by omega)
      rw [if_pos c1, g2, Fn.rollbookref13_One.j0, if_neg Bool.false_ne_true, Fn.rollbookref13_One.j1, if_pos g3, g4, Fn.rollbookref13_One.j2, if_neg Bool.false_ne_true, Fn.rollbookref13_One.j3, if_pos g5, g7, Fn.rollbookref13_One.j4, if_neg Bool.false_ne_true, q1, q2, q3]
      rfl
    · have g3 : ¬ (c : Int) ≥ 224 := by omega
      rw [if_neg c1, Fn.rollbookref13_One.j0, if_neg Bool.false_ne_true, j1 _ _ _ g3, q1, q2, q3]
      rfl
def flat1 : Option (Nat × Nat) → Int × Int
  | none => (0, 0)
  | some (v, n) => ((v : Int), (n : Int))
theorem ifs {p q : Prop} [Decidable p] [Decidable q] {α : Type} {a b : α} (h : p ↔ q) : (if p then a else b) = if q then a else b := by
  by_cases c : p
  · rw [if_pos c, if_pos (h.1 c)]
  · rw [if_neg c, if_neg (fun x => c (h.2 x))]
theorem refOne_f (s : ByteArray) (i : Nat) (hi : i < s.size) (hs : s.size ≤ 100000) : Fn.rollbookref13_One.f 12 s (i : Int) = some (flat1 (one (s.data.toList.drop i))) := by
  cases hD : s.data.toList.drop i with
  | nil =>
    have h := congrArg List.length hD
    rw [drop_len, List.length_nil] at h
    omega
  | cons a l =>
    have hlen : l.length + 1 = s.size - i := by rw [← drop_len, hD]; rfl
    have ha := a.toNat_lt
    have hb0 : bt s (i : Int) = (a.toNat : Int) := bt_is s i 0 a (by rw [hD]; rfl)
    have hw0 : wrap64 (a.toNat : Int) = (a.toNat : Int) := by unfold wrap64; omega
    unfold Fn.rollbookref13_One.f
    rw [if_pos (by omega), if_pos (by omega), hb0, hw0, one_cons]
    by_cases c1 : a.toNat < 128
    · rw [if_pos (by omega), if_pos c1]
      rfl
    · rw [if_neg (by omega), if_neg c1]
      by_cases c2 : 194 ≤ a.toNat ∧ a.toNat < 224
      · rw [one_head 7 s i a.toNat 2 (a.toNat - 192) 128 (by omega) (.inl ⟨c2.1, c2.2, rfl, rfl, rfl⟩), if_pos c2, Fn.rollbookref13_One.j5, if_neg (by decide)]
        have e : wrap64 ((i : Int) + ((2 : Nat) : Int)) = ((i + 2 : Nat) : Int) := by unfold wrap64; omega
        rw [e]
        match l, hlen, hD with
        | [], hlen, _ =>
          simp only [List.length_nil] at hlen
          rw [decide_eq_true (by omega), Fn.rollbookref13_One.j6, if_pos rfl]; rfl
        | b :: l, hlen, hD =>
          simp only [List.length_cons] at hlen
          rw [decide_eq_false (by omega), Fn.rollbookref13_One.j6, if_neg (by decide)]
          have st := one_step 4 s i 2 (a.toNat - 192) 128 1 b hs (by decide) (by omega) (by rw [hD]; rfl)
          have st' : Fn.rollbookref13_One.l0 5 s (i : Int) ((2 : Nat) : Int) ((a.toNat - 192 : Nat) : Int) ((128 : Nat) : Int) 1 = _ := st
          rw [st']
          simp only
          by_cases d1 : conB b
          · rw [if_pos d1, if_pos d1]
            have en := one_end 3 s i 2 ((a.toNat - 192) * 64 + (b.toNat - 128)) 128
            have hb := d1
            unfold conB at hb
            have hok : okB ((a.toNat - 192) * 64 + (b.toNat - 128)) 128 := ⟨by omega, by omega, by omega⟩
            rw [if_pos hok] at en
            exact en
          · rw [if_neg d1, if_neg d1]; rfl
      · rw [if_neg c2]
        by_cases c3 : 224 ≤ a.toNat ∧ a.toNat < 240
        · rw [one_head 7 s i a.toNat 3 (a.toNat - 224) 2048 (by omega) (.inr (.inl ⟨c3.1, c3.2, rfl, rfl, rfl⟩)), if_pos c3, Fn.rollbookref13_One.j5, if_neg (by decide)]
          have e : wrap64 ((i : Int) + ((3 : Nat) : Int)) = ((i + 3 : Nat) : Int) := by unfold wrap64; omega
          rw [e]
          match l, hlen, hD with
          | [], hlen, _ =>
            simp only [List.length_nil] at hlen
            rw [decide_eq_true (by omega), Fn.rollbookref13_One.j6, if_pos rfl]; rfl
          | [b], hlen, _ =>
            simp only [List.length_cons, List.length_nil] at hlen
            rw [decide_eq_true (by omega), Fn.rollbookref13_One.j6, if_pos rfl]; rfl
          | b :: c :: l, hlen, hD =>
            simp only [List.length_cons] at hlen
            rw [decide_eq_false (by omega), Fn.rollbookref13_One.j6, if_neg (by decide)]
            have st := one_step 4 s i 3 (a.toNat - 224) 2048 1 b hs (by decide) (by omega) (by rw [hD]; rfl)
            have st' : Fn.rollbookref13_One.l0 5 s (i : Int) ((3 : Nat) : Int) ((a.toNat - 224 : Nat) : Int) ((2048 : Nat) : Int) 1 = _ := st
            have hbl := b.toNat_lt
            have st2 := one_step 3 s i 3 ((a.toNat - 224) * 64 + (b.toNat - 128)) 2048 2 c hs (by decide) (by omega) (by rw [hD]; rfl)
            have en := one_end 2 s i 3 (v3 a b c) 2048
            have hle : v3 a b c ≤ 1114111 ∨ ¬ (conB b ∧ conB c) := by unfold v3 conB; omega
            rw [st', st2]
            simp only
            by_cases d1 : conB b
            · by_cases d2 : conB c
              · have hle2 := hle.resolve_right (fun h => h ⟨d1, d2⟩)
                rw [if_pos d1, if_pos d2]
                refine en.trans ?_
                by_cases d3 : 2048 ≤ v3 a b c ∧ ¬ (55296 ≤ v3 a b c ∧ v3 a b c ≤ 57343)
                · have hok : okB (v3 a b c) 2048 := ⟨d3.1, hle2, d3.2⟩
                  rw [if_pos hok, if_pos ⟨d1, d2, d3⟩]; rfl
                · rw [if_neg (fun h : okB (v3 a b c) 2048 => d3 ⟨h.1, h.2.2⟩), if_neg (fun h => d3 h.2.2)]; rfl
              · rw [if_pos d1, if_neg d2, if_neg (fun h => d2 h.2.1)]; rfl
            · rw [if_neg d1, if_neg (fun h => d1 h.1)]; rfl
        · rw [if_neg c3]
          by_cases c4 : 240 ≤ a.toNat ∧ a.toNat < 245
          · rw [one_head 7 s i a.toNat 4 (a.toNat - 240) 65536 (by omega) (.inr (.inr (.inl ⟨c4.1, c4.2, rfl, rfl, rfl⟩))), if_pos c4, Fn.rollbookref13_One.j5, if_neg (by decide)]
            have e : wrap64 ((i : Int) + ((4 : Nat) : Int)) = ((i + 4 : Nat) : Int) := by unfold wrap64; omega
            rw [e]
            match l, hlen, hD with
            | [], hlen, _ =>
              simp only [List.length_nil] at hlen
              rw [decide_eq_true (by omega), Fn.rollbookref13_One.j6, if_pos rfl]; rfl
            | [b], hlen, _ =>
              simp only [List.length_cons, List.length_nil] at hlen
              rw [decide_eq_true (by omega), Fn.rollbookref13_One.j6, if_pos rfl]; rfl
            | [b, c], hlen, _ =>
              simp only [List.length_cons, List.length_nil] at hlen
              rw [decide_eq_true (by omega), Fn.rollbookref13_One.j6, if_pos rfl]; rfl
            | b :: c :: d :: l, hlen, hD =>
              simp only [List.length_cons] at hlen
              rw [decide_eq_false (by omega), Fn.rollbookref13_One.j6, if_neg (by decide)]
              have st := one_step 4 s i 4 (a.toNat - 240) 65536 1 b hs (by decide) (by omega) (by rw [hD]; rfl)
              have st' : Fn.rollbookref13_One.l0 5 s (i : Int) ((4 : Nat) : Int) ((a.toNat - 240 : Nat) : Int) ((65536 : Nat) : Int) 1 = _ := st
              have hbl := b.toNat_lt
              have hcl := c.toNat_lt
              have st2 := one_step 3 s i 4 ((a.toNat - 240) * 64 + (b.toNat - 128)) 65536 2 c hs (by decide) (by omega) (by rw [hD]; rfl)
              have st3 := one_step 2 s i 4 (((a.toNat - 240) * 64 + (b.toNat - 128)) * 64 + (c.toNat - 128)) 65536 3 d hs (by decide) (by omega) (by rw [hD]; rfl)
              have en := one_end 1 s i 4 (v4 a b c d) 65536
              rw [st', st2, st3]
              simp only
              by_cases d1 : conB b
              · by_cases d2 : conB c
                · by_cases d3 : conB d
                  · rw [if_pos d1, if_pos d2, if_pos d3]
                    refine en.trans ?_
                    by_cases d4 : 65536 ≤ v4 a b c d ∧ v4 a b c d ≤ 1114111
                    · have hok : okB (v4 a b c d) 65536 := ⟨d4.1, d4.2, by omega⟩
                      rw [if_pos hok, if_pos ⟨d1, d2, d3, d4⟩]; rfl
                    · rw [if_neg (fun h : okB (v4 a b c d) 65536 => d4 ⟨h.1, h.2.1⟩), if_neg (fun h => d4 h.2.2.2)]; rfl
                  · rw [if_pos d1, if_pos d2, if_neg d3, if_neg (fun h => d3 h.2.2.1)]; rfl
                · rw [if_pos d1, if_neg d2, if_neg (fun h => d2 h.2.1)]; rfl
              · rw [if_neg d1, if_neg (fun h => d1 h.1)]; rfl
          · rw [one_head 7 s i a.toNat 0 0 0 (by omega) (.inr (.inr (.inr ⟨by omega, rfl, rfl, rfl⟩))), if_neg c4, Fn.rollbookref13_One.j5, if_pos (by rfl), Fn.rollbookref13_One.j6, if_pos rfl]
            rfl
end Go.Proofs.YtcoddeemfdnjpaaDoor.PrepPlain
