/- The plain law of order: tuples stand in the order of their lists; one begins another just if its list does. -/
import Derived.Test.YtcoddeemfdnjpaaDoorTuplesWalk
import Derived.Test.YtcoddeemfdnjpaaDoorFn54
import Derived.Test.YtcoddeemfdnjpaaDoorFn57
import Derived.Test.YtcoddeemfdnjpaaDoorFn58
import Derived.Lib.Bytealg
namespace Go.Proofs.YtcoddeemfdnjpaaDoor
open Go.RowKit TextPlain
open Go.Proofs.YtcoddeemfdnjpaaDoorW.PrintMore
open Go.Proofs.YtcoddeemfdnjpaaDoorW.PrintWords hiding nums nums_length nums_append
open Lib (compareBytes)
theorem cb_cons (x y : UInt8) (a b : List UInt8) : compareBytes (x :: a) (y :: b) = if x < y then -1 else if y < x then 1 else compareBytes a b := by rw [compareBytes]
theorem cb_lt (x y : UInt8) (a b : List UInt8) (h : x < y) : compareBytes (x :: a) (y :: b) = -1 := by rw [cb_cons, if_pos h]
theorem cb_gt (x y : UInt8) (a b : List UInt8) (h : y < x) : compareBytes (x :: a) (y :: b) = 1 := by
  rw [cb_cons, if_neg, if_pos h]
  exact UInt8.lt_asymm h
theorem cb_eq (x : UInt8) (a b : List UInt8) : compareBytes (x :: a) (x :: b) = compareBytes a b := by
  rw [cb_cons, if_neg (UInt8.lt_irrefl x), if_neg (UInt8.lt_irrefl x)]
theorem cb_nil (y : UInt8) (b : List UInt8) : compareBytes [] (y :: b) = -1 := by rw [compareBytes]
theorem cb_cons_nil (y : UInt8) (b : List UInt8) : compareBytes (y :: b) [] = 1 := by rw [compareBytes]
theorem cb_nils : compareBytes [] [] = 0 := by rw [compareBytes]
theorem u_pos {x : UInt8} (h : x ≠ 0) : (0 : UInt8) < x := by
  rw [UInt8.lt_iff_toNat_lt]
  have : x.toNat ≠ 0 := fun e => h (UInt8.toNat.inj (by simpa using e))
  simp; omega
/-- list by list -/
def cmpP : List (List UInt8) → List (List UInt8) → Int
  | [], [] => 0
  | [], _ :: _ => -1
  | _ :: _, [] => 1
  | p :: a, q :: b => if compareBytes p q = 0 then cmpP a b else compareBytes p q
theorem cb_esc (r s : List UInt8) : ∀ (p q : List UInt8), compareBytes (escL p ++ 0 :: 1 :: r) (escL q ++ 0 :: 1 :: s) = if compareBytes p q = 0 then compareBytes r s else compareBytes p q
  | [], [] => by
    show compareBytes (0 :: 1 :: r) (0 :: 1 :: s) = _
    rw [cb_eq, cb_eq, cb_nils, if_pos rfl]
  | [], y :: q => by
    rw [cb_nil, if_neg (by decide)]
    show compareBytes (0 :: 1 :: r) (escL (y :: q) ++ _) = _
    unfold escL
    by_cases h : y = 0
    · rw [if_pos h]
      show compareBytes (0 :: 1 :: r) (0 :: 255 :: _) = _
      rw [cb_eq, cb_lt _ _ _ _ (by decide)]
    · rw [if_neg h]
      exact cb_lt _ _ _ _ (u_pos h)
  | x :: p, [] => by
    rw [cb_cons_nil, if_neg (by decide)]
    show compareBytes (escL (x :: p) ++ _) (0 :: 1 :: s) = _
    unfold escL
    by_cases h : x = 0
    · rw [if_pos h]
      show compareBytes (0 :: 255 :: _) (0 :: 1 :: s) = _
      rw [cb_eq, cb_gt _ _ _ _ (by decide)]
    · rw [if_neg h]
      exact cb_gt _ _ _ _ (u_pos h)
  | x :: p, y :: q => by
    have ih := cb_esc r s p q
    rw [escL, escL]
    by_cases hx : x = 0
    · subst hx
      by_cases hy : y = 0
      · subst hy
        rw [if_pos rfl, if_pos rfl]
        show compareBytes (0 :: 255 :: (escL p ++ 0 :: 1 :: r)) (0 :: 255 :: (escL q ++ 0 :: 1 :: s)) = _
        rw [cb_eq, cb_eq, cb_eq, ih]
      · rw [if_pos rfl, if_neg hy, cb_lt 0 y p q (u_pos hy), if_neg (by decide)]
        exact cb_lt _ _ _ _ (u_pos hy)
    · by_cases hy : y = 0
      · subst hy
        rw [if_pos rfl, if_neg hx, cb_gt x 0 p q (u_pos hx), if_neg (by decide)]
        exact cb_gt _ _ _ _ (u_pos hx)
      · rw [if_neg hx, if_neg hy, List.cons_append, List.cons_append, cb_cons, cb_cons, ih]
        by_cases h1 : x < y
        · rw [if_pos h1, if_pos h1, if_neg (by decide)]
        · rw [if_neg h1, if_neg h1]
          by_cases h2 : y < x
          · rw [if_pos h2, if_pos h2, if_neg (by decide)]
          · rw [if_neg h2, if_neg h2]
/-- THE LAW: tuples stand in the order of their lists. -/
theorem cb_tup : ∀ (a b : List (List UInt8)), compareBytes (tupL a) (tupL b) = cmpP a b
  | [], [] => by show compareBytes [] [] = _; rw [cb_nils, cmpP]
  | [], q :: b => by
    rw [tupL_cons, cmpP]
    show compareBytes [] _ = _
    cases h : escL q with
    | nil => exact cb_nil _ _
    | cons _ _ => exact cb_nil _ _
  | p :: a, [] => by
    rw [tupL_cons, cmpP]
    show compareBytes _ [] = _
    cases h : escL p with
    | nil => exact cb_cons_nil _ _
    | cons _ _ => exact cb_cons_nil _ _
  | p :: a, q :: b => by rw [tupL_cons, tupL_cons, cb_esc, cmpP, cb_tup a b]
theorem cb_anti : ∀ (a b : List UInt8), compareBytes a b = - compareBytes b a
  | [], [] => by rw [cb_nils]; rfl
  | [], _ :: _ => by rw [cb_nil, cb_cons_nil]
  | _ :: _, [] => by rw [cb_nil, cb_cons_nil]; rfl
  | x :: a, y :: b => by
    have ih := cb_anti a b
    rw [cb_cons, cb_cons]
    by_cases h1 : x < y
    · rw [if_pos h1, if_neg (UInt8.lt_asymm h1), if_pos h1]
    · rw [if_neg h1]
      by_cases h2 : y < x
      · rw [if_pos h2, if_pos h2]; rfl
      · rw [if_neg h2, if_neg h2, if_neg h1, ih]
theorem cb_range (a b : List UInt8) : compareBytes a b = -1 ∨ compareBytes a b = 0 ∨ compareBytes a b = 1 := by
  induction a generalizing b with
  | nil => cases b with
    | nil => rw [cb_nils]; simp
    | cons _ _ => rw [cb_nil]; simp
  | cons x a ih => cases b with
    | nil => rw [cb_cons_nil]; simp
    | cons y b =>
      rw [cb_cons]
      split
      · simp
      · split
        · simp
        · exact ih b
theorem cmp_anti : ∀ (a b : List (List UInt8)), cmpP a b = - cmpP b a
  | [], [] => by rw [cmpP]; rfl
  | [], _ :: _ => by rw [cmpP, cmpP]
  | _ :: _, [] => by rw [cmpP, cmpP]; rfl
  | p :: a, q :: b => by
    have ih := cmp_anti a b
    have h := cb_anti p q
    rw [cmpP, cmpP]
    by_cases c : compareBytes p q = 0
    · rw [if_pos c, if_pos (by omega), ih]
    · rw [if_neg c, if_neg (by omega), h]
theorem cmp_range (a b : List (List UInt8)) : cmpP a b = -1 ∨ cmpP a b = 0 ∨ cmpP a b = 1 := by
  rw [← cb_tup]; exact cb_range _ _
theorem pre_esc (r s : List UInt8) : ∀ (p q : List UInt8), (escL p ++ 0 :: 1 :: r) <+: (escL q ++ 0 :: 1 :: s) ↔ p = q ∧ r <+: s
  | [], [] => by
    show (0 :: 1 :: r) <+: (0 :: 1 :: s) ↔ _
    simp [List.cons_prefix_cons]
  | [], y :: q => by
    show (0 :: 1 :: r) <+: (escL (y :: q) ++ _) ↔ _
    unfold escL
    by_cases h : y = 0
    · rw [if_pos h]
      show (0 :: 1 :: r) <+: (0 :: 255 :: (escL q ++ 0 :: 1 :: s)) ↔ _
      simp [List.cons_prefix_cons]
    · rw [if_neg h]
      simp [List.cons_prefix_cons, Ne.symm h]
  | x :: p, [] => by
    show (escL (x :: p) ++ _) <+: (0 :: 1 :: s) ↔ _
    unfold escL
    by_cases h : x = 0
    · rw [if_pos h]
      show (0 :: 255 :: (escL p ++ 0 :: 1 :: r)) <+: (0 :: 1 :: s) ↔ _
      simp [List.cons_prefix_cons]
    · rw [if_neg h]
      simp [List.cons_prefix_cons, h]
  | x :: p, y :: q => by
    have ih := pre_esc r s p q
    rw [escL, escL]
    by_cases hx : x = 0
    · subst hx
      by_cases hy : y = 0
      · subst hy
        rw [if_pos rfl, if_pos rfl]
        show (0 :: 255 :: (escL p ++ 0 :: 1 :: r)) <+: (0 :: 255 :: (escL q ++ 0 :: 1 :: s)) ↔ _
        simp [List.cons_prefix_cons, ih]
      · rw [if_pos rfl, if_neg hy]
        simp [List.cons_prefix_cons, Ne.symm hy]
    · by_cases hy : y = 0
      · subst hy
        rw [if_pos rfl, if_neg hx]
        simp [List.cons_prefix_cons, hx]
      · rw [if_neg hx, if_neg hy, List.cons_append, List.cons_append]
        simp [List.cons_prefix_cons, ih, and_assoc]
/-- THE LAW: a tuple begins another one just if its list does. -/
theorem pre_tup : ∀ (a b : List (List UInt8)), tupL a <+: tupL b ↔ a <+: b
  | [], b => by
    show [] <+: _ ↔ _
    simp
  | p :: a, [] => by
    rw [tupL_cons]
    show _ <+: [] ↔ _
    simp
  | p :: a, q :: b => by
    rw [tupL_cons, tupL_cons, pre_esc, pre_tup a b, List.cons_prefix_cons]
/-- the reference's order of two texts -/
theorem refLess_l0 (s t : ByteArray) (hs : s.size < 4611686018427387904) : ∀ (a b : List UInt8) (i k : Nat), s.data.toList.drop i = a → t.data.toList.drop i = b → i ≤ s.size → i ≤ t.size → 2 * a.length + 2 ≤ k →
    Fn.rollbookref01_Less.l0 k s t (i : Int) = some (compareBytes a b) := by
  intro a
  induction a with
  | nil =>
    intro b i k ha hb his hit hk
    have hS := drop_end s i ha
    obtain ⟨k, rfl⟩ : ∃ q, k = q + 1 + 1 := ⟨k - 2, by simp at hk; omega⟩
    have e : s.size = i := by omega
    have c1 : ¬ ((i : Int) < (s.size : Int)) := by omega
    rw [Fn.rollbookref01_Less.l0, if_neg c1, Fn.rollbookref01_Less.j1, if_neg (by decide)]
    cases b with
    | nil =>
      have hT := drop_end t i hb
      rw [if_neg (by omega), if_neg (by omega), cb_nils]
    | cons y b =>
      obtain ⟨h1, _, _⟩ := bt_at_list t i y b hb
      rw [if_pos (by omega), cb_nil]
  | cons x a ih =>
    intro b i k ha hb his hit hk
    obtain ⟨h1, h2, h3⟩ := bt_at_list s i x a ha
    simp only [List.length_cons] at hk
    obtain ⟨k, rfl⟩ : ∃ q, k = q + 1 + 1 := ⟨k - 2, by omega⟩
    have c1 : (i : Int) < (s.size : Int) := by omega
    have c0 : (0 : Int) ≤ (i : Int) := by omega
    rw [Fn.rollbookref01_Less.l0, if_pos c1, Fn.rollbookref01_Less.j1]
    cases b with
    | nil =>
      have hT := drop_end t i hb
      have c2 : ¬ ((i : Int) < (t.size : Int)) := by omega
      have c3 : ¬ ((s.size : Int) < (t.size : Int)) := by omega
      have c4 : (s.size : Int) > (t.size : Int) := by omega
      rw [decide_eq_false c2, if_neg (by decide), if_neg c3, if_pos c4, cb_cons_nil]
    | cons y b =>
      obtain ⟨g1, g2, g3⟩ := bt_at_list t i y b hb
      have c2 : (i : Int) < (t.size : Int) := by omega
      have e1 : wrap64 ((i : Int) + 1) = ((i + 1 : Nat) : Int) := by clear h2 g2; unfold wrap64; omega
      rw [decide_eq_true c2, if_pos rfl, if_pos c0, if_pos c1, if_pos c2, h2, g2, e1, cb_cons]
      by_cases l1 : x < y
      · have := UInt8.lt_iff_toNat_lt.1 l1
        rw [if_pos (by omega), if_pos l1]
      · have l1' : ¬ x.toNat < y.toNat := fun h => l1 (UInt8.lt_iff_toNat_lt.2 h)
        rw [if_neg (by omega), if_neg l1]
        by_cases l2 : y < x
        · have := UInt8.lt_iff_toNat_lt.1 l2
          rw [if_pos (by omega), if_pos l2]
        · have l2' : ¬ y.toNat < x.toNat := fun h => l2 (UInt8.lt_iff_toNat_lt.2 h)
          rw [if_neg (by omega), if_neg l2]
          exact ih b (i + 1) k h3 g3 (by omega) (by omega) (by omega)
theorem refLess_f (s t : ByteArray) (k : Nat) (hs : s.size < 4611686018427387904) (hk : 2 * s.size + 2 ≤ k) : Fn.rollbookref01_Less.f k s t = some (compareBytes s.data.toList t.data.toList) := by
  have := Lib.size_eq s
  exact refLess_l0 s t hs s.data.toList t.data.toList 0 k rfl rfl (by omega) (by omega) (by omega)
theorem rd_drop (l : List ByteArray) (i : Nat) (p : ByteArray) (r : List ByteArray) (h : l.drop i = p :: r) : i < l.length ∧ rdOf ByteArray.empty l (i : Int) = p ∧ l.drop (i + 1) = r := by
  have hl : i < l.length := by
    rcases Nat.lt_or_ge i l.length with h' | h'
    · exact h'
    · rw [List.drop_eq_nil_of_le h'] at h; cases h
  rw [List.drop_eq_getElem_cons hl] at h
  injection h with h1 h2
  exact ⟨hl, by rw [rd_nat l i hl, h1], h2⟩
theorem w2 (i : Nat) (h : i < 4611686018427387904) : wrap64 ((i : Int) + 1) = ((i + 1 : Nat) : Int) := by unfold wrap64; omega
theorem lists_cons (p : ByteArray) (l : List ByteArray) : lists (p :: l) = p.data.toList :: lists l := rfl
theorem refCompare_l0 (l m : List ByteArray) (M : Nat) (hM : ∀ p ∈ l, 2 * p.size + 2 ≤ M ∧ p.size < 4611686018427387904) (hl : l.length < 4611686018427387904) : ∀ (a b : List ByteArray) (i k : Nat), l.drop i = a → m.drop i = b → i ≤ l.length → i ≤ m.length → M + a.length + 1 ≤ k →
    Fn.rollbookref01_Compare.l0 k l m (i : Int) = some (cmpP (lists a) (lists b)) := by
  intro a
  induction a with
  | nil =>
    intro b i k ha hb hil him hk
    have hL := List.drop_eq_nil_iff.1 ha
    obtain ⟨k, rfl⟩ : ∃ q, k = q + 1 := ⟨k - 1, by omega⟩
    rw [Fn.rollbookref01_Compare.l0, if_neg (by omega)]
    cases b with
    | nil =>
      have hT := List.drop_eq_nil_iff.1 hb
      rw [if_neg (by omega)]; rfl
    | cons y b =>
      obtain ⟨h1, _, _⟩ := rd_drop m i y b hb
      rw [if_pos (by omega)]; rfl
  | cons x a ih =>
    intro b i k ha hb hil him hk
    obtain ⟨h1, h2, h3⟩ := rd_drop l i x a ha
    simp only [List.length_cons] at hk
    obtain ⟨k, rfl⟩ : ∃ q, k = q + 1 := ⟨k - 1, by omega⟩
    have c1 : (i : Int) < (l.length : Int) := by omega
    have c0 : (0 : Int) ≤ (i : Int) := by omega
    rw [Fn.rollbookref01_Compare.l0, if_pos c1]
    cases b with
    | nil =>
      have hT := List.drop_eq_nil_iff.1 hb
      rw [if_pos (by omega)]; rfl
    | cons y b =>
      obtain ⟨g1, g2, g3⟩ := rd_drop m i y b hb
      have hx : x ∈ l := by
        have : x ∈ l.drop i := by rw [ha]; simp
        exact List.mem_of_mem_drop this
      have c2 : (i : Int) < (m.length : Int) := by omega
      have c3 : ¬ ((i : Int) ≥ (m.length : Int)) := by omega
      obtain ⟨hx1, hx2⟩ := hM x hx
      rw [if_neg c3, if_pos c0, if_pos c2, h2, g2, refLess_f x y k hx2 (by omega), Option.bind_some, lists_cons, lists_cons, cmpP, w2 i (by omega)]
      by_cases hc : compareBytes x.data.toList y.data.toList = 0
      · rw [if_pos hc, if_pos hc]
        exact ih b (i + 1) k h3 g3 (by omega) (by omega) (by omega)
      · rw [if_neg hc, if_neg hc]
theorem bound_ex (l : List ByteArray) : ∃ M, ∀ p ∈ l, 2 * p.size + 2 ≤ M := by
  induction l with
  | nil => exact ⟨0, by simp⟩
  | cons p l ih =>
    obtain ⟨M, hM⟩ := ih
    refine ⟨M + 2 * p.size + 2, fun q hq => ?_⟩
    simp only [List.mem_cons] at hq
    rcases hq with rfl | hq
    · omega
    · have := hM q hq; omega
theorem refCompare_f (l m : List ByteArray) (hl : l.length < 4611686018427387904) (hz : ∀ p ∈ l, p.size < 4611686018427387904) : ∃ k, Fn.rollbookref01_Compare.f k l m = some (cmpP (lists l) (lists m)) := by
  obtain ⟨M, hM⟩ := bound_ex l
  exact ⟨M + l.length + 1, refCompare_l0 l m M (fun p hp => ⟨hM p hp, hz p hp⟩) hl l m 0 _ rfl rfl (by omega) (by omega) (by omega)⟩
theorem same_l0 (l m : List ByteArray) (hlm : l.length = m.length) (hl : l.length < 4611686018427387904) : ∀ (a b : List ByteArray) (i k : Nat), l.drop i = a → m.drop i = b → a.length + 1 ≤ k →
    Fn.rollbookref01_Same.l0 k l m (i : Int) = some (decide (a = b)) := by
  intro a
  induction a with
  | nil =>
    intro b i k ha hb hk
    have hL := List.drop_eq_nil_iff.1 ha
    obtain ⟨k, rfl⟩ : ∃ q, k = q + 1 := ⟨k - 1, by omega⟩
    have : b = [] := by rw [← hb]; exact List.drop_eq_nil_iff.2 (by omega)
    subst this
    rw [Fn.rollbookref01_Same.l0, if_neg (by omega)]; rfl
  | cons x a ih =>
    intro b i k ha hb hk
    obtain ⟨h1, h2, h3⟩ := rd_drop l i x a ha
    simp only [List.length_cons] at hk
    obtain ⟨k, rfl⟩ : ∃ q, k = q + 1 := ⟨k - 1, by omega⟩
    have c1 : (i : Int) < (l.length : Int) := by omega
    have c2 : (i : Int) < (m.length : Int) := by omega
    have c0 : (0 : Int) ≤ (i : Int) := by omega
    rw [Fn.rollbookref01_Same.l0, if_pos c1, if_pos c0, if_pos c2]
    cases b with
    | nil =>
      have hT := List.drop_eq_nil_iff.1 hb
      omega
    | cons y b =>
      obtain ⟨g1, g2, g3⟩ := rd_drop m i y b hb
      rw [h2, g2, w2 i (by omega)]
      by_cases hc : x = y
      · subst hc
        rw [if_pos rfl, ih b (i + 1) k h3 g3 (by omega)]
        simp
      · have hc' : ¬ x.toList = y.toList := by
          rw [Lib.toList_data, Lib.toList_data]
          intro h
          apply hc
          cases x; cases y
          simp only [ByteArray.mk.injEq]
          exact Array.toList_inj.1 h
        rw [if_neg hc']
        simp [hc]
theorem same_f (l m : List ByteArray) (hl : l.length < 4611686018427387904) : Fn.rollbookref01_Same.f (l.length + 1) l m = some (decide (l = m)) := by
  unfold Fn.rollbookref01_Same.f
  by_cases h : l.length = m.length
  · rw [if_pos (by omega)]
    exact same_l0 l m h hl l m 0 _ rfl rfl (by omega)
  · rw [if_neg (by omega)]
    have : ¬ l = m := fun e => h (by rw [e])
    simp [this]
theorem begins_f (s t : ByteArray) : Fn.rollbookref01_Begins.f s t = some (decide (s.data.toList <+: t.data.toList)) := by
  have hs := Lib.size_eq s
  have ht := Lib.size_eq t
  unfold Fn.rollbookref01_Begins.f
  by_cases c : s.size ≤ t.size
  · rw [if_pos (by omega), if_pos (by omega)]
    congr 1
    rw [Lib.toList_data, Lib.toList_data, Int.toNat_natCast, ByteArray.data_extract, Array.toList_extract, List.extract_eq_take_drop]
    simp only [List.drop_zero, Nat.sub_zero]
    rw [hs]
    by_cases h : s.data.toList <+: t.data.toList
    · have e := List.prefix_iff_eq_take.1 h
      rw [decide_eq_true h, ← e, beq_self_eq_true]
    · have e : ¬ List.take s.data.toList.length t.data.toList = s.data.toList := fun e => h (List.prefix_iff_eq_take.2 e.symm)
      rw [decide_eq_false h]
      exact beq_false_of_ne e
  · rw [if_neg (by omega)]
    have : ¬ s.data.toList <+: t.data.toList := fun h => by have := h.length_le; omega
    simp [this]
theorem lists_prefix (a b : List ByteArray) : lists a <+: lists b ↔ a <+: b := by
  constructor
  · intro h
    have := h.map toB
    rwa [toB_lists, toB_lists] at this
  · intro h
    exact h.map _
end Go.Proofs.YtcoddeemfdnjpaaDoor
