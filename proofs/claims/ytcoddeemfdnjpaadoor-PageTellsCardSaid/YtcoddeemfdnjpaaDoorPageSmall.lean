/- Small walks that pages lean on: lay, its row of records made on the spot, Right. -/
import Derived.Test.YtcoddeemfdnjpaaDoorPagePlain
import Derived.Test.YtcoddeemfdnjpaaDoorTakeWalk
import Derived.Test.YtcoddeemfdnjpaaDoorFnPg
namespace Go.Proofs.YtcoddeemfdnjpaaDoor.PagePlain
open Go.RowKit CrcPlain NumPlain FieldPlain
open Go.Proofs.YtcoddeemfdnjpaaDoorW.PrintMore
open Go.Proofs.YtcoddeemfdnjpaaDoorW.PrintWords hiding nums nums_length nums_append
theorem right_f (k no txn : Int) (body : ByteArray) : Fn.page_Right.f k no txn body = some (rightF k no txn body) := by
  unfold Fn.page_Right.f rightF
  by_cases c1 : k ≥ 1
  · by_cases c2 : k ≤ 4
    · by_cases c3 : no ≥ 1
      · by_cases c4 : no < 512
        · by_cases c5 : txn ≥ 0
          · by_cases c6 : txn ≤ 1099511627776
            · rw [if_pos c1, if_pos c2, if_pos c3, if_pos c4, if_pos c5, if_pos c6]
              congr 1
              rw [decide_eq_decide]
              omega
            · rw [if_pos c1, if_pos c2, if_pos c3, if_pos c4, if_pos c5, if_neg c6]
              congr 1
              exact (decide_eq_false (by omega)).symm
          · rw [if_pos c1, if_pos c2, if_pos c3, if_pos c4, if_neg c5]
            congr 1
            exact (decide_eq_false (by omega)).symm
        · rw [if_pos c1, if_pos c2, if_pos c3, if_neg c4]
          congr 1
          exact (decide_eq_false (by omega)).symm
      · rw [if_pos c1, if_pos c2, if_neg c3]
        congr 1
        exact (decide_eq_false (by omega)).symm
    · rw [if_pos c1, if_neg c2]
      congr 1
      exact (decide_eq_false (by omega)).symm
  · rw [if_neg c1]
    congr 1
    exact (decide_eq_false (by omega)).symm
theorem right_any (k no txn : Int) (body : ByteArray) (w : World) :
    Calls Tryd.prog 29 #[.agg #[.int .i64 k, .int .i64 no, .int .i64 txn, .string body]] w fun e w' => e = .returned (.bool (rightF k no txn body)) ∧ Below w.heap.size w w' :=
  Fn.page_Right.calls k no txn body _ w (right_f k no txn body)
theorem put_fk (s : ByteArray) (n : Nat) (size : Int) (hn : n < 18446744073709551616) (hs : s.size + 8 ≤ 9223372036854775807) : ∀ d, Fn.field_Put.f (12 + d) s (n : Int) size = some (putF s n size)
  | 0 => put_f s n size hn hs
  | d + 1 => Fn.field_Put.mono _ _ _ _ _ (put_fk s n size hn hs d)
/-- numbers laid behind a text -/
def layL (s : ByteArray) (l : List (Nat × Nat)) : ByteArray := l.foldl (fun s x => s ++ numB x.2 x.1) s
def recs (l : List (Nat × Nat)) : List Fn.S81 := l.map fun x => ⟨x.1, x.2⟩
theorem lay_l0 (l : List (Nat × Nat)) (hl : ∀ x ∈ l, 1 ≤ x.2 ∧ x.2 ≤ 8 ∧ x.1 < 256 ^ x.2 ∧ x.1 < 9223372036854775808) (hlen : l.length ≤ 100) : ∀ (a : List (Nat × Nat)) (i d : Nat) (s : ByteArray), l.drop i = a → s.size + 8 * a.length ≤ 100000 →
    Fn.page_lay.l0 (13 + a.length + d) s (recs l) (l.length : Int) (i : Int) = some (layL s a) := by
  intro a
  induction a with
  | nil =>
    intro i d s hd hs
    have := List.drop_eq_nil_iff.1 hd
    rw [show 13 + ([] : List (Nat × Nat)).length + d = (12 + d) + 1 by simp; omega, Fn.page_lay.l0, if_neg (by omega)]
    rfl
  | cons x a ih =>
    intro i d s hd hs
    simp only [List.length_cons] at hs
    have hi : i < l.length := by
      rcases Nat.lt_or_ge i l.length with h' | h'
      · exact h'
      · rw [List.drop_eq_nil_of_le h'] at hd; cases hd
    have hd2 := hd
    rw [List.drop_eq_getElem_cons hi] at hd2
    injection hd2 with e1 e2
    have hx : x ∈ l := by rw [← e1]; exact List.getElem_mem hi
    obtain ⟨h1, h8, hlt, h63⟩ := hl x hx
    have hrd : Fn.rd_T81 (recs l) (i : Int) = ⟨x.1, x.2⟩ := by
      unfold Fn.rd_T81 recs
      rw [Int.toNat_natCast, List.getD_eq_getElem?_getD, List.getElem?_map, List.getElem?_eq_getElem hi, e1]
      rfl
    have hw : IntKind.u64.wrap ((x.1 : Nat) : Int) = ((x.1 : Nat) : Int) := by
      show ((x.1 : Nat) : Int) % 18446744073709551616 = _
      omega
    have e3 : wrap64 ((i : Int) + 1) = ((i + 1 : Nat) : Int) := by unfold wrap64; omega
    have hrl : ((recs l).length : Int) = (l.length : Int) := by simp [recs]
    have hp := put_fk s x.1 (x.2 : Int) (by omega) (by omega) (1 + a.length + d)
    have hpf : putF s x.1 (x.2 : Int) = (s ++ numB x.2 x.1, 0) := by
      unfold putF
      rw [Int.toNat_natCast, if_neg (by omega)]
      rfl
    rw [show 12 + (1 + a.length + d) = 13 + a.length + d by omega] at hp
    rw [show 13 + (x :: a).length + d = (13 + a.length + d) + 1 by simp; omega, Fn.page_lay.l0, if_pos (by omega), if_pos (by omega), if_pos (by omega), hrd, hw, hp, Option.bind_some, hpf, e3]
    rw [ih (i + 1) d (s ++ numB x.2 x.1) e2 (by rw [ByteArray.size_append, numB_size]; omega)]
    rfl
theorem lay_f (s : ByteArray) (l : List (Nat × Nat)) (hl : ∀ x ∈ l, 1 ≤ x.2 ∧ x.2 ≤ 8 ∧ x.1 < 256 ^ x.2 ∧ x.1 < 9223372036854775808) (hlen : l.length ≤ 100) (hs : s.size ≤ 90000) :
    Fn.page_lay.f (13 + l.length) s (recs l) = some (layL s l) := by
  unfold Fn.page_lay.f
  have h := lay_l0 l hl hlen l 0 0 s rfl (by omega)
  have e : ((recs l).length : Int) = (l.length : Int) := by simp [recs]
  rw [e]
  exact h
def flatL : List (Nat × Nat) → List Value
  | [] => []
  | x :: l => .int .i64 (x.1 : Int) :: .int .i64 (x.2 : Int) :: flatL l
theorem flat_at : ∀ (l : List (Nat × Nat)) (j : Nat) (x : Nat × Nat), l[j]? = some x → (flatL l)[j * 2]? = some (.int .i64 (x.1 : Int)) ∧ (flatL l)[j * 2 + 1]? = some (.int .i64 (x.2 : Int))
  | [], j, x, h => by simp at h
  | y :: l, 0, x, h => by
    simp only [List.getElem?_cons_zero, Option.some.injEq] at h
    subst h
    exact ⟨rfl, rfl⟩
  | y :: l, j + 1, x, h => by
    have ih := flat_at l j x (by simpa using h)
    rw [show (j + 1) * 2 = j * 2 + 1 + 1 by omega]
    exact ⟨ih.1, ih.2⟩
theorem recs_row (v : World) (l : List (Nat × Nat)) (hlen : l.length ≤ 100) : Kd.C Fn.k81 (v.alloc (.cells (flatL l).toArray 81)) (some ⟨v.heap.size, 0, none⟩) (recs l).length (recs l) := by
  refine ⟨rfl, by simp [recs]; omega, fun _ => ⟨_, rfl, fun j p hj => ⟨[.int .i64 p.f0, .int .i64 p.f1], rfl, Fn.k81_mk _ p, fun i u hi => ?_⟩⟩⟩
  unfold recs at hj
  rw [List.getElem?_map, Option.map_eq_some_iff] at hj
  obtain ⟨x, hx, rfl⟩ := hj
  obtain ⟨h1, h2⟩ := flat_at l j x hx
  have hc : ∀ (n : Nat) q, (flatL l)[n]? = some q → (v.alloc (.cells (flatL l).toArray 81)).cell? ⟨v.heap.size, n, none⟩ = some q := by
    intro n q hq
    simp [World.alloc, -World.alloc_eq, World.cell?, hq]
  show World.cell? _ (Addr.add ⟨v.heap.size, 0, none⟩ (j * 2 + i)) = some u
  have ha : (Addr.add ⟨v.heap.size, 0, none⟩ (j * 2 + i)) = ⟨v.heap.size, j * 2 + i, none⟩ := by simp [Addr.add]; omega
  rw [ha]
  match i with
  | 0 =>
    simp only [List.getElem?_cons_zero, Option.some.injEq] at hi
    subst hi
    exact hc _ _ h1
  | 1 =>
    simp only [List.getElem?_cons_succ, List.getElem?_cons_zero, Option.some.injEq] at hi
    subst hi
    exact hc _ _ h2
  | _ + 2 => simp at hi
theorem lay_any (s : ByteArray) (l : List (Nat × Nat)) (v : World) (hl : ∀ x ∈ l, 1 ≤ x.2 ∧ x.2 ≤ 8 ∧ x.1 < 256 ^ x.2 ∧ x.1 < 9223372036854775808) (hlen : l.length ≤ 100) (hs : s.size ≤ 90000) :
    Calls Tryd.prog 73 #[.string s, .slice (some ⟨v.heap.size, 0, none⟩) l.length l.length] (v.alloc (.cells (flatL l).toArray 81)) fun e w' => e = .returned (.string (layL s l)) ∧ Below v.heap.size v w' := by
  have hrow := recs_row v l hlen
  have e : (recs l).length = l.length := by simp [recs]
  have h := Fn.page_lay.calls (13 + l.length) s (some ⟨v.heap.size, 0, none⟩) l.length (recs l) (layL s l) (v.alloc (.cells (flatL l).toArray 81)) hrow (by rw [e]; omega) (lay_f s l hl hlen hs)
  rw [e] at h
  refine h.mono fun _ _ ⟨h1, h2⟩ => ⟨h1, ?_⟩
  have hb0 := (Below.refl v.heap.size v).alloc (Nat.le_refl _) (Obj.cells (flatL l).toArray 81)
  exact hb0.trans (h2.mono hb0.size)
theorem layL_head (k no txn : Nat) (body : ByteArray) : layL ⟨#[82, 66]⟩ [(k, 1), (0, 1), (body.size, 2), (no, 4), (txn, 8)] = headB k no txn body := rfl
end Go.Proofs.YtcoddeemfdnjpaaDoor.PagePlain
