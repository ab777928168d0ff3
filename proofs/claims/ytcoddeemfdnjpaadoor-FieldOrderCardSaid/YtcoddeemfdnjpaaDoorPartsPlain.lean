/- The plain law of tuples read again: cut by the program, or byte by byte by the reference: both give the one list whose tuple the text is, or none. -/
import Derived.Test.YtcoddeemfdnjpaaDoorTextPlain
namespace Go.Proofs.YtcoddeemfdnjpaaDoor.TextPlain
open Go.Lib
/-- a part out of what stands for it -/
def unescL (l : List UInt8) : List UInt8 := replaceAll l [0, 255] [0]
theorem unesc_nil : unescL [] = [] := rep_nil _ _ (by decide) (by decide)
theorem unesc_esc (l : List UInt8) : unescL (escL l) = l := by
  induction l with
  | nil => exact unesc_nil
  | cons b l ih =>
    unfold unescL at ih ⊢
    rw [escL]
    by_cases h : b = 0
    · subst h
      rw [if_pos rfl, rep_hit [0, 255] [0] (by decide) (by decide) 0 _ (by simp [List.isPrefixOf])]
      show [0] ++ replaceAll (escL l) [0, 255] [0] = _
      rw [ih]; rfl
    · rw [if_neg h, rep_miss [0, 255] [0] (by decide) (by decide) b _ (by simp [List.isPrefixOf, Ne.symm h]), ih]
theorem cut_esc (p rest : List UInt8) : cut (escL p ++ 0 :: 1 :: rest) [0, 1] = (escL p, rest, true) := by
  induction p with
  | nil => exact cut_hit [0, 1] 0 (1 :: rest) (by simp [List.isPrefixOf])
  | cons b p ih =>
    unfold escL
    by_cases h : b = 0
    · subst h
      rw [if_pos rfl]
      show cut (0 :: (255 :: (escL p ++ 0 :: 1 :: rest))) [0, 1] = _
      rw [cut_miss [0, 1] 0 _ (by simp [List.isPrefixOf]), cut_miss [0, 1] 255 _ (by simp [List.isPrefixOf]), ih]
    · rw [if_neg h]
      show cut (b :: (escL p ++ 0 :: 1 :: rest)) [0, 1] = _
      rw [cut_miss [0, 1] b _ (by simp [List.isPrefixOf, Ne.symm h]), ih]
theorem cut_rest_lt (l : List UInt8) (h : (cut l [0, 1]).2.2 = true) : (cut l [0, 1]).2.1.length < l.length := by
  unfold cut at h ⊢
  by_cases c : 0 ≤ index l [0, 1]
  · rw [if_pos c] at h ⊢
    have := index_room l [0, 1] c
    simp only [List.length_drop, List.length_cons, List.length_nil] at this ⊢
    omega
  · rw [if_neg c] at h; cases h
/-- as the program cuts: all parts, or none -/
def cutAll : Nat → List UInt8 → Option (List (List UInt8))
  | _, [] => some []
  | 0, _ :: _ => none
  | k + 1, b :: l => if (cut (b :: l) [0, 1]).2.2 = true then (cutAll k (cut (b :: l) [0, 1]).2.1).map (unescL (cut (b :: l) [0, 1]).1 :: ·) else none
theorem cutAll_fuel : ∀ (k j : Nat) (l : List UInt8), l.length ≤ k → l.length ≤ j → cutAll k l = cutAll j l
  | _, _, [], _, _ => by unfold cutAll; rfl
  | 0, _, _ :: _, h, _ => by simp at h
  | _, 0, _ :: _, _, h => by simp at h
  | k + 1, j + 1, b :: l, hk, hj => by
    unfold cutAll
    by_cases c : (cut (b :: l) [0, 1]).2.2 = true
    · rw [if_pos c, if_pos c]
      have := cut_rest_lt (b :: l) c
      rw [cutAll_fuel k j _ (by omega) (by omega)]
    · rw [if_neg c, if_neg c]
/-- all parts of a text -/
def cuts (l : List UInt8) : Option (List (List UInt8)) := cutAll l.length l
theorem cuts_nil : cuts [] = some [] := rfl
theorem cuts_step (l : List UInt8) (hne : l ≠ []) (h : (cut l [0, 1]).2.2 = true) : cuts l = (cuts (cut l [0, 1]).2.1).map (unescL (cut l [0, 1]).1 :: ·) := by
  cases l with
  | nil => exact absurd rfl hne
  | cons b l =>
    have hlt := cut_rest_lt (b :: l) h
    have e : cuts (b :: l) = (cutAll l.length (cut (b :: l) [0, 1]).2.1).map (unescL (cut (b :: l) [0, 1]).1 :: ·) := by
      show cutAll (l.length + 1) (b :: l) = _
      rw [cutAll, if_pos h]
    rw [e, cutAll_fuel l.length (cut (b :: l) [0, 1]).2.1.length _ (by simp only [List.length_cons] at hlt; omega) (Nat.le_refl _)]
    rfl
theorem cuts_stop (l : List UInt8) (hne : l ≠ []) (h : ¬ (cut l [0, 1]).2.2 = true) : cuts l = none := by
  cases l with
  | nil => exact absurd rfl hne
  | cons b l =>
    show cutAll (l.length + 1) (b :: l) = _
    rw [cutAll, if_neg h]
theorem tupL_cons (p : List UInt8) (l : List (List UInt8)) : tupL (p :: l) = escL p ++ 0 :: 1 :: tupL l := by simp [tupL]
theorem cuts_tup (l : List (List UInt8)) : cuts (tupL l) = some l := by
  induction l with
  | nil => rfl
  | cons p l ih =>
    have hc := cut_esc p (tupL l)
    rw [← tupL_cons] at hc
    rw [cuts_step _ (by rw [tupL_cons]; simp) (by rw [hc]), hc]
    simp only [ih, Option.map_some, unesc_esc]
/-- as the reference reads: the part so far, whether one is open, the parts -/
def refGo : List UInt8 → List UInt8 → Bool → List (List UInt8) → Option (List (List UInt8))
  | [], _, op, acc => if op = true ∨ 16 < acc.length then none else some acc
  | c :: r, b, _op, acc =>
    if c ≠ 0 then refGo r (b ++ [c]) true acc
    else match r with
      | [] => none
      | d :: r' => if d = 255 then refGo r' (b ++ [0]) true acc else if d = 1 then refGo r' [] false (acc ++ [b]) else none
theorem refGo_cons (c : UInt8) (r b : List UInt8) (op : Bool) (acc : List (List UInt8)) : refGo (c :: r) b op acc =
    if c ≠ 0 then refGo r (b ++ [c]) true acc
    else match r with
      | [] => none
      | d :: r' => if d = 255 then refGo r' (b ++ [0]) true acc else if d = 1 then refGo r' [] false (acc ++ [b]) else none := by
  rw [refGo.eq_def]
theorem refGo_esc (p rest : List UInt8) : ∀ (b : List UInt8) (op : Bool) (acc : List (List UInt8)), refGo (escL p ++ 0 :: 1 :: rest) b op acc = refGo rest [] false (acc ++ [b ++ p]) := by
  induction p with
  | nil =>
    intro b op acc
    show refGo (0 :: 1 :: rest) b op acc = _
    rw [refGo_cons]
    simp
  | cons c p ih =>
    intro b op acc
    unfold escL
    by_cases h : c = 0
    · subst h
      rw [if_pos rfl]
      show refGo (0 :: 255 :: (escL p ++ 0 :: 1 :: rest)) b op acc = _
      rw [refGo_cons]
      simp [ih]
    · rw [if_neg h]
      show refGo (c :: (escL p ++ 0 :: 1 :: rest)) b op acc = _
      rw [refGo_cons]
      simp [h, ih]
theorem refGo_tup (l : List (List UInt8)) : ∀ acc, (acc ++ l).length ≤ 16 → refGo (tupL l) [] false acc = some (acc ++ l) := by
  induction l with
  | nil => intro acc h; show refGo [] [] false acc = _; rw [refGo, if_neg (by simp at h ⊢; omega)]; simp
  | cons p l ih =>
    intro acc h
    rw [tupL_cons, refGo_esc, ih _ (by simpa using h)]
    simp
theorem escL_snoc (b : List UInt8) (c : UInt8) : escL (b ++ [c]) = escL b ++ (if c = 0 then [0, 255] else [c]) := by
  induction b with
  | nil => by_cases h : c = 0 <;> simp [escL, h]
  | cons d b ih =>
    simp only [List.cons_append]
    rw [escL, escL, ih]
    by_cases h : d = 0 <;> simp [h]
theorem refGo_sound : ∀ (n : Nat) (s b : List UInt8) (op : Bool) (acc l : List (List UInt8)), s.length ≤ n → refGo s b op acc = some l → (op = false → b = []) →
    ∃ m, l = acc ++ m ∧ tupL m = escL b ++ s ∧ l.length ≤ 16 := by
  intro n
  induction n with
  | zero =>
    intro s b op acc l hn h hop
    have : s = [] := by simpa using hn
    subst this
    rw [refGo] at h
    by_cases c : op = true ∨ 16 < acc.length
    · rw [if_pos c] at h; cases h
    · rw [if_neg c] at h
      cases h
      have hb := hop (by simpa using fun e => c (.inl e))
      subst hb
      exact ⟨[], by simp, rfl, by omega⟩
  | succ n ih =>
    intro s b op acc l hn h hop
    cases s with
    | nil => exact ih [] b op acc l (by simp) h hop
    | cons c r =>
      rw [refGo_cons] at h
      by_cases hc : c ≠ 0
      · rw [if_pos hc] at h
        obtain ⟨m, h1, h2, h3⟩ := ih r (b ++ [c]) true acc l (by simpa using hn) h (by simp)
        refine ⟨m, h1, ?_, h3⟩
        rw [h2, escL_snoc, if_neg hc]
        simp
      · have hc0 : c = 0 := Classical.not_not.1 hc
        subst hc0
        rw [if_neg hc] at h
        cases r with
        | nil => cases h
        | cons d r' =>
          simp only at h
          by_cases hd : d = 255
          · rw [if_pos hd] at h
            subst hd
            obtain ⟨m, h1, h2, h3⟩ := ih r' (b ++ [0]) true acc l (by simp at hn; omega) h (by simp)
            refine ⟨m, h1, ?_, h3⟩
            rw [h2, escL_snoc, if_pos rfl]
            simp
          · rw [if_neg hd] at h
            by_cases h1 : d = 1
            · rw [if_pos h1] at h
              subst h1
              obtain ⟨m, h1, h2, h3⟩ := ih r' [] false (acc ++ [b]) l (by simp at hn; omega) h (by simp)
              refine ⟨b :: m, by simpa using h1, ?_, h3⟩
              rw [tupL_cons, h2]
              simp [escL]
            · rw [if_neg h1] at h; cases h
/-- THE LAW: what the reference reads is the list whose tuple the text is. -/
theorem ref_iff (s : List UInt8) (l : List (List UInt8)) : refGo s [] false [] = some l ↔ tupL l = s ∧ l.length ≤ 16 := by
  constructor
  · intro h
    obtain ⟨m, h1, h2, h3⟩ := refGo_sound s.length s [] false [] l (Nat.le_refl _) h (fun _ => rfl)
    have : l = m := by simpa using h1
    subst this
    exact ⟨by simpa [escL] using h2, h3⟩
  · rintro ⟨rfl, h⟩
    have := refGo_tup l [] (by simpa using h)
    simpa using this
end Go.Proofs.YtcoddeemfdnjpaaDoor.TextPlain
