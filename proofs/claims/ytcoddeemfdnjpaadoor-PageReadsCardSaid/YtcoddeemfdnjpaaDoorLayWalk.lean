/- The call that lays numbers: its row of records is made on the spot. -/
import Derived.Test.YtcoddeemfdnjpaaDoorPageSmall
namespace Go.Proofs.YtcoddeemfdnjpaaDoor.PagePlain
open Go.RowKit CrcPlain NumPlain FieldPlain
open Go.Proofs.YtcoddeemfdnjpaaDoorW.PrintMore
open Go.Proofs.YtcoddeemfdnjpaaDoorW.PrintWords hiding nums nums_length nums_append
def flatL : List (Nat × Nat) → List Value
  | [] => []
  | x :: l => .int .i64 (x.1 : Int) :: .int .i64 (x.2 : Int) :: flatL l
theorem flat_at : ∀ (l : List (Nat × Nat)) (j : Nat) (x : Nat × Nat), l[j]? = some x → (flatL l)[j * 2]? = some (.int .i64 (x.1 : Int)) ∧ (flatL l)[j * 2 + 1]? = some (.int .i64 (x.2 : Int))
  | [], j, x, h => by simp at h
  | y :: l, 0, x, h => by
    simp only [List.getElem?_cons_zero, Option.some.injEq] at h
    subst h
    exact ⟨rfl, rfl⟩
  | y :: l, j + 1, x, h => by
    have ih := flat_at l j x (by simpa using h)
    rw [show (j + 1) * 2 = j * 2 + 1 + 1 by omega]
    exact ⟨ih.1, ih.2⟩
theorem recs_row (v : World) (l : List (Nat × Nat)) (hlen : l.length ≤ 100) : Kd.C Fn.k81 (v.alloc (.cells (flatL l).toArray 81)) (some ⟨v.heap.size, 0, none⟩) (recs l).length (recs l) := by
  refine ⟨rfl, by simp [recs]; omega, fun _ => ⟨_, rfl, fun j p hj => ⟨[.int .i64 p.f0, .int .i64 p.f1], rfl, Fn.k81_mk _ p, fun i u hi => ?_⟩⟩⟩
  unfold recs at hj
  rw [List.getElem?_map, Option.map_eq_some_iff] at hj
  obtain ⟨x, hx, rfl⟩ := hj
  obtain ⟨h1, h2⟩ := flat_at l j x hx
  have hc : ∀ (n : Nat) q, (flatL l)[n]? = some q → (v.alloc (.cells (flatL l).toArray 81)).cell? ⟨v.heap.size, n, none⟩ = some q := by
    intro n q hq
    simp [World.alloc, -World.alloc_eq, World.cell?, hq]
  show World.cell? _ (Addr.add ⟨v.heap.size, 0, none⟩ (j * 2 + i)) = some u
  have ha : (Addr.add ⟨v.heap.size, 0, none⟩ (j * 2 + i)) = ⟨v.heap.size, j * 2 + i, none⟩ := by simp [Addr.add]; omega
  rw [ha]
  match i with
  | 0 =>
    simp only [List.getElem?_cons_zero, Option.some.injEq] at hi
    subst hi
    exact hc _ _ h1
  | 1 =>
    simp only [List.getElem?_cons_succ, List.getElem?_cons_zero, Option.some.injEq] at hi
    subst hi
    exact hc _ _ h2
  | _ + 2 => simp at hi
theorem lay_any (s : ByteArray) (l : List (Nat × Nat)) (v : World) (hl : ∀ x ∈ l, 1 ≤ x.2 ∧ x.2 ≤ 8 ∧ x.1 < 256 ^ x.2 ∧ x.1 < 9223372036854775808) (hlen : l.length ≤ 100) (hs : s.size ≤ 90000) :
    Calls Tryd.prog 73 #[.string s, .slice (some ⟨v.heap.size, 0, none⟩) l.length l.length] (v.alloc (.cells (flatL l).toArray 81)) fun e w' => e = .returned (.string (layL s l)) ∧ Below v.heap.size v w' := by
  have hrow := recs_row v l hlen
  have e : (recs l).length = l.length := by simp [recs]
  have h := Fn.page_lay.calls (13 + l.length) s (some ⟨v.heap.size, 0, none⟩) l.length (recs l) (layL s l) (v.alloc (.cells (flatL l).toArray 81)) hrow (by rw [e]; omega) (lay_f s l hl hlen hs)
  rw [e] at h
  refine h.mono fun _ _ ⟨h1, h2⟩ => ⟨h1, ?_⟩
  have hb0 := (Below.refl v.heap.size v).alloc (Nat.le_refl _) (Obj.cells (flatL l).toArray 81)
  exact hb0.trans (h2.mono hb0.size)
theorem layL_head (k no txn : Nat) (body : ByteArray) : layL ⟨#[82, 66]⟩ [(k, 1), (0, 1), (body.size, 2), (no, 4), (txn, 8)] = headB k no txn body := rfl
end Go.Proofs.YtcoddeemfdnjpaaDoor.PagePlain
