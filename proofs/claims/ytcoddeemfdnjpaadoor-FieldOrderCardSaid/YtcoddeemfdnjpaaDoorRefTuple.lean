/- The plain law of the reference's tuples: what its printed functions Tuple, Parts, Same and the law's own bound come to. -/
import Derived.Test.YtcoddeemfdnjpaaDoorPartsWalk
import Derived.Test.YtcoddeemfdnjpaaDoorFn59
import Derived.Test.YtcoddeemfdnjpaaDoorFn61
import Derived.Test.YtcoddeemfdnjpaaDoorFn56
import Derived.Test.YtcoddeemfdnjpaaDoorFn52
namespace Go.Proofs.YtcoddeemfdnjpaaDoor
open Go.RowKit TextPlain
open Go.Proofs.YtcoddeemfdnjpaaDoorW.PrintMore
open Go.Proofs.YtcoddeemfdnjpaaDoorW.PrintWords hiding nums nums_length nums_append
def intsU (l : List UInt8) : List Int := l.map fun u => (u.toNat : Int)
theorem intsU_append (a b : List UInt8) : intsU (a ++ b) = intsU a ++ intsU b := by simp [intsU]
theorem intsU_length (l : List UInt8) : (intsU l).length = l.length := by simp [intsU]
theorem strOfU (l : List UInt8) : strOfNums (intsU l) = toB l := by
  unfold strOfNums intsU toB
  congr 1
  rw [List.map_map]
  have : ((fun n : Int => UInt8.ofNat n.toNat) ∘ fun u : UInt8 => (u.toNat : Int)) = id := by funext u; simp
  rw [this, List.map_id]
theorem bt_at_list (s : ByteArray) (j : Nat) (u : UInt8) (r : List UInt8) (h : s.data.toList.drop j = u :: r) : j < s.size ∧ bt s (j : Int) = (u.toNat : Int) ∧ s.data.toList.drop (j + 1) = r := by
  have hl : j < s.data.toList.length := by
    rcases Nat.lt_or_ge j s.data.toList.length with h' | h'
    · exact h'
    · rw [List.drop_eq_nil_of_le h'] at h; cases h
  have hs : s.data.toList.length = s.size := Lib.size_eq s
  rw [List.drop_eq_getElem_cons hl] at h
  injection h with h1 h2
  refine ⟨by omega, ?_, h2⟩
  unfold bt
  rw [Int.toNat_natCast, dif_pos (by omega), ← h1]
  rfl
theorem drop_end (s : ByteArray) (j : Nat) (h : s.data.toList.drop j = []) : s.size ≤ j := by
  have hs : s.data.toList.length = s.size := Lib.size_eq s
  have := List.drop_eq_nil_iff.1 h
  omega
theorem u_zero (u : UInt8) : ((u.toNat : Int) = 0) ↔ u = 0 := by
  constructor
  · intro h
    have : u.toNat = 0 := by omega
    exact UInt8.toNat.inj (by simpa using this)
  · rintro rfl; rfl
/-- one part laid by the reference -/
theorem refTuple_l1 (l : List ByteArray) (i : Nat) (h16 : l.length ≤ 16) (hi : i < l.length) (p : ByteArray) (hp : rdOf ByteArray.empty l (i : Int) = p) : ∀ (e k : Nat) (b : List Int) (j : Nat) (r : List UInt8), p.data.toList.drop j = r → j ≤ b.length → 4097 ≤ b.length + e → 2 * e + 2 ≤ k → b.length ≤ 4200 →
    ∃ k' b', Fn.rollbookref01_Tuple.l1 k l b (i : Int) (j : Int) = Fn.rollbookref01_Tuple.l0 k' l b' ((i + 1 : Nat) : Int) ∧ k ≤ k' + 2 * e + 2 ∧
      (b' = b ++ intsU (escL r) ++ [0, 1] ∨ (4096 < b'.length ∧ 4096 < (b ++ intsU (escL r) ++ [0, 1]).length)) ∧ (b'.length ≤ 4100 ∨ b'.length ≤ b.length + 2) := by
  have stop : ∀ (k : Nat) (b : List Int) (j : Nat), b.length ≤ 4200 → Fn.rollbookref01_Tuple.j2 (k + 1) l b (i : Int) (j : Int) false = Fn.rollbookref01_Tuple.l0 k l (b ++ [0, 1]) ((i + 1 : Nat) : Int) := by
    intro k b j hb
    simp only [Fn.rollbookref01_Tuple.j2]
    have e1 : wrap64 ((i : Int) + 1) = ((i + 1 : Nat) : Int) := by unfold wrap64; omega
    simp only [Bool.false_eq_true, if_false, Option.bind_some, List.length_cons, List.length_nil]
    rw [if_pos (by omega), e1]
  intro e
  induction e with
  | zero =>
    intro k b j r hr hj he hk hb
    obtain ⟨k, rfl⟩ : ∃ q, k = q + 1 + 1 := ⟨k - 2, by omega⟩
    refine ⟨k, b ++ [0, 1], ?_, by omega, .inr ⟨by simp; omega, by simp; omega⟩, .inr (by simp)⟩
    simp only [Fn.rollbookref01_Tuple.l1]
    rw [if_pos (by omega), if_pos (by omega), hp]
    by_cases c : (j : Int) < (p.size : Int)
    · rw [if_pos c, decide_eq_false (by omega), stop k b j hb]
    · rw [if_neg c, stop k b j hb]
  | succ e ih =>
    intro k b j r hr hj he hk hb
    obtain ⟨k, rfl⟩ : ∃ q, k = q + 1 + 1 := ⟨k - 2, by omega⟩
    cases r with
    | nil =>
      have hsz := drop_end p j hr
      refine ⟨k, b ++ [0, 1], ?_, by omega, .inl (by simp [escL, intsU]), .inr (by simp)⟩
      simp only [Fn.rollbookref01_Tuple.l1]
      rw [if_pos (by omega), if_pos (by omega), hp, if_neg (by omega), stop k b j hb]
    | cons u r =>
      obtain ⟨hlt, hbt, hdr⟩ := bt_at_list p j u r hr
      by_cases c : b.length ≤ 4096
      · have e1 : wrap64 ((j : Int) + 1) = ((j + 1 : Nat) : Int) := by unfold wrap64; omega
        by_cases hu : u = 0
        · obtain ⟨k', b', h1, h2, h3, h4⟩ := ih k (b ++ [0] ++ [255]) (j + 1) r hdr (by simp; omega) (by simp; omega) (by omega) (by simp; omega)
          refine ⟨k', b', ?_, by omega, ?_, ?_⟩
          · rw [← h1]
            simp only [Fn.rollbookref01_Tuple.l1]
            rw [if_pos (by omega), if_pos (by omega), hp, if_pos (by omega), decide_eq_true (by omega)]
            simp only [Fn.rollbookref01_Tuple.j2, if_true]
            rw [hp, hbt, if_pos (by omega), if_pos (by omega), if_pos (by omega), if_pos (by omega), if_pos (by omega)]
            simp only [Option.bind_some]
            rw [if_pos ((u_zero u).2 hu), if_pos (by simp; omega), e1, (u_zero u).2 hu]
          · subst hu
            have e2 : b ++ [0] ++ [255] ++ intsU (escL r) ++ [0, 1] = b ++ intsU (escL (0 :: r)) ++ [0, 1] := by simp [escL, intsU]
            rw [e2] at h3
            exact h3
          · rcases h4 with h4 | h4
            · exact .inl h4
            · simp at h4; exact .inl (by omega)
        · obtain ⟨k', b', h1, h2, h3, h4⟩ := ih k (b ++ [(u.toNat : Int)]) (j + 1) r hdr (by simp; omega) (by simp; omega) (by omega) (by simp; omega)
          refine ⟨k', b', ?_, by omega, ?_, ?_⟩
          · rw [← h1]
            simp only [Fn.rollbookref01_Tuple.l1]
            rw [if_pos (by omega), if_pos (by omega), hp, if_pos (by omega), decide_eq_true (by omega)]
            simp only [Fn.rollbookref01_Tuple.j2, if_true]
            rw [hp, hbt, if_pos (by omega), if_pos (by omega), if_pos (by omega), if_pos (by omega), if_pos (by omega)]
            simp only [Option.bind_some]
            rw [if_neg (fun e => hu ((u_zero u).1 e)), e1]
          · have e2 : b ++ [(u.toNat : Int)] ++ intsU (escL r) ++ [0, 1] = b ++ intsU (escL (u :: r)) ++ [0, 1] := by simp [escL, intsU, hu]
            rw [e2] at h3
            exact h3
          · rcases h4 with h4 | h4
            · exact .inl h4
            · simp at h4; exact .inl (by omega)
      · refine ⟨k, b ++ [0, 1], ?_, by omega, .inr ⟨by simp; omega, by simp; omega⟩, .inr (by simp)⟩
        simp only [Fn.rollbookref01_Tuple.l1]
        rw [if_pos (by omega), if_pos (by omega), hp, if_pos (by omega), decide_eq_false (by omega), stop k b j hb]
/-- the text so far: what the tuple holds, or already too long -/
def RefTup (l : List ByteArray) (i : Nat) (b : List Int) : Prop := (b = intsU (tupL ((lists l).take i)) ∨ (4096 < b.length ∧ 4096 < (tupL ((lists l).take i)).length)) ∧ b.length ≤ 4100 + 2 * i
theorem refTuple_l0 (l : List ByteArray) (h16 : l.length ≤ 16) : ∀ (d i k : Nat) (b : List Int), l.length = i + d → RefTup l i b → 8300 * d + 1 ≤ k → Fn.rollbookref01_Tuple.l0 k l b (i : Int) = some (tupleF l) := by
  intro d
  induction d with
  | zero =>
    intro i k b hd hq hk
    obtain ⟨k, rfl⟩ : ∃ q, k = q + 1 := ⟨k - 1, by omega⟩
    rw [Fn.rollbookref01_Tuple.l0, if_neg (by omega)]
    have e : (lists l).take i = lists l := List.take_of_length_le (by simp [lists]; omega)
    unfold RefTup at hq
    rw [e] at hq
    rcases hq.1 with h | ⟨h1, h2⟩
    · have hl : b.length = (tupL (lists l)).length := by rw [h, intsU_length]
      by_cases c : 4096 < (tupL (lists l)).length
      · rw [if_pos (by omega), tuple_long l h16 c]
      · rw [if_neg (by omega), tuple_fits l h16 c, h, strOfU]; rfl
    · rw [if_pos (by omega), tuple_long l h16 h2]
  | succ d ih =>
    intro i k b hd hq hk
    obtain ⟨k, rfl⟩ : ∃ q, k = q + 1 := ⟨k - 1, by omega⟩
    rw [Fn.rollbookref01_Tuple.l0, if_pos (by omega)]
    unfold RefTup at hq
    obtain ⟨k', b', h1, h2, h3, h4⟩ := refTuple_l1 l i h16 (by omega) _ rfl 4100 k b 0 (rdOf ByteArray.empty l (i : Int)).data.toList rfl (by omega) (by omega) (by omega) (by omega)
    have h1' : Fn.rollbookref01_Tuple.l1 k l b (i : Int) 0 = _ := h1
    rw [h1']
    refine ih (i + 1) k' b' (by omega) ⟨?_, by omega⟩ (by omega)
    have e : tupL ((lists l).take (i + 1)) = tupL ((lists l).take i) ++ (escL (rdOf ByteArray.empty l (i : Int)).data.toList ++ [0, 1]) := by
      rw [rd_lists l i (by omega), tupL_snoc]
    rw [e]
    rcases hq.1 with h | ⟨g1, g2⟩
    · rcases h3 with h3 | ⟨h3, h5⟩
      · refine .inl ?_
        rw [h3, h, intsU_append, intsU_append, List.append_assoc]
        rfl
      · refine .inr ⟨h3, ?_⟩
        rw [h] at h5
        simpa [intsU_length, intsU_append] using h5
    · refine .inr ⟨?_, by simp; omega⟩
      rcases h3 with h3 | ⟨h3, _⟩
      · rw [h3]; simp; omega
      · exact h3
theorem refTuple_f (l : List ByteArray) : Fn.rollbookref01_Tuple.f 140000 l = some (tupleF l) := by
  unfold Fn.rollbookref01_Tuple.f
  by_cases c : 16 < l.length
  · rw [if_pos (by omega)]
    unfold tupleF
    rw [if_pos c]
  · rw [if_neg (by omega)]
    exact refTuple_l0 l (by omega) l.length 0 140000 [] (by omega) ⟨.inl rfl, by simp⟩ (by omega)
theorem lists_toB (l : List (List UInt8)) : lists (l.map toB) = l := by
  unfold lists
  rw [List.map_map]
  conv => rhs; rw [← List.map_id l]
  rfl
theorem toB_lists (l : List ByteArray) : (lists l).map toB = l := by
  unfold lists
  rw [List.map_map]
  conv => rhs; rw [← List.map_id l]
  rfl
def refPartsF (s : ByteArray) : List ByteArray × Int :=
  if 4096 < s.size then ([], 4) else match refGo s.data.toList [] false [] with
    | none => ([], 4)
    | some l => (l.map toB, 0)
theorem tupleF_ok (l : List (List UInt8)) (s : ByteArray) (h : tupleF (l.map toB) = (s, 0)) : tupL l = s.data.toList ∧ l.length ≤ 16 ∧ s.size ≤ 4096 := by
  unfold tupleF at h
  rw [lists_toB, List.length_map] at h
  by_cases c : 16 < l.length
  · rw [if_pos c] at h
    have := congrArg (·.2) h
    simp at this
  · rw [if_neg c] at h
    by_cases c2 : 4096 < (tupL l).length
    · rw [if_pos c2] at h
      have := congrArg (·.2) h
      simp at this
    · rw [if_neg c2] at h
      have h1 := congrArg (·.1) h
      simp only at h1
      subst h1
      exact ⟨by simp, by omega, by show (tupL l).toArray.size ≤ _; simp; omega⟩
theorem tupleF_is (l : List (List UInt8)) (s : ByteArray) (h : tupL l = s.data.toList) (h1 : l.length ≤ 16) (h2 : s.size ≤ 4096) : tupleF (l.map toB) = (s, 0) := by
  have hz := Lib.size_eq s
  unfold tupleF
  rw [lists_toB, List.length_map, if_neg (by omega), if_neg (by rw [h]; omega), h]
/-- THE LAW of parts: both read the same. -/
theorem parts_are (s : ByteArray) : partsF s = refPartsF s := by
  unfold partsF refPartsF
  by_cases c : 4096 < s.size
  · rw [if_pos c]
    cases hc : cuts s.data.toList with
    | none => rfl
    | some l =>
      simp only
      rw [if_neg (fun h => by have := (tupleF_ok l s h).2.2; omega)]
  · rw [if_neg c]
    cases hg : refGo s.data.toList [] false [] with
    | none =>
      cases hc : cuts s.data.toList with
      | none => rfl
      | some l =>
        simp only
        rw [if_neg]
        intro h
        obtain ⟨h1, h2, _⟩ := tupleF_ok l s h
        have := (ref_iff s.data.toList l).2 ⟨h1, h2⟩
        rw [hg] at this; cases this
    | some l =>
      obtain ⟨h1, h2⟩ := (ref_iff s.data.toList l).1 hg
      rw [← h1, cuts_tup]
      simp only
      rw [if_pos (tupleF_is l s h1 h2 (by omega))]
theorem parts_of_tuple (l : List ByteArray) (s : ByteArray) (h : tupleF l = (s, 0)) : partsF s = (l, 0) := by
  have h' := h
  rw [← toB_lists l] at h
  obtain ⟨h1, _, _⟩ := tupleF_ok _ s h
  unfold partsF
  rw [← h1, cuts_tup]
  simp only
  rw [toB_lists, if_pos h']
end Go.Proofs.YtcoddeemfdnjpaaDoor
