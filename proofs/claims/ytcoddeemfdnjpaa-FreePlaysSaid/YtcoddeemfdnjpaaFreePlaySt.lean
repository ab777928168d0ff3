/- Where the play of FreePlays stands: a list, the reference's list beside it, and what each call makes of them. -/
import Derived.Test.YtcoddeemfdnjpaaFreeRefTake
import Derived.Test.YtcoddeemfdnjpaaFreeSort
import Derived.Test.YtcoddeemfdnjpaaFreeAwake
import Derived.Test.YtcoddeemfdnjpaaFn21
namespace Go.Proofs.Ytcoddeemfdnjpaa.Free
open Go.RowKit Go.Lib Go.Proofs.Ytcoddeemfdnjpaa.Fn
open Go.Proofs.YtcoddeemfdnjpaaW.PrintWords Go.Proofs.YtcoddeemfdnjpaaW.PrintLast
/-- a list in block b, the reference's in block rb; s: what the reference holds, in order -/
structure PlayB (w : World) (rb b : Nat) (l s : List S28) (wr : World) (X Z : Nat → Prop) (r : List S28) : Prop where
  below : Below w.heap.size w wr
  hb : w.heap.size ≤ b
  hrb : w.heap.size ≤ rb
  ne : b ≠ rb
  list : ListAt wr b X l
  ref : RefAt wr rb Z r
  perm : r.Perm s
  sorted : s.Pairwise ltF
  short : s.length ≤ 511
  hX : ∀ k, X k → w.heap.size ≤ k ∧ k ≠ rb ∧ ¬ Z k
  hZ : ∀ k, Z k → w.heap.size ≤ k ∧ k ≠ b
def PlaySt (w : World) (rb b : Nat) (l s : List S28) (wr : World) : Prop := ∃ X Z r, PlayB w rb b l s wr X Z r
theorem PlayB.rlen {w wr : World} {rb b : Nat} {l s r : List S28} {X Z : Nat → Prop} (h : PlayB w rb b l s wr X Z r) : r.length ≤ 1000 := by
  have := h.perm.length_eq
  have := h.short
  omega
/-- the world's blocks that are there now may be told as such; the new ones are x's -/
theorem PlayB.wideX {w wr : World} {rb b : Nat} {l s r : List S28} {X Z : Nat → Prop} (h : PlayB w rb b l s wr X Z r) :
    PlayB w rb b l s wr (fun k => (X k ∧ k < wr.heap.size) ∨ wr.heap.size ≤ k) (fun k => Z k ∧ k < wr.heap.size) r :=
  ⟨h.below, h.hb, h.hrb, h.ne, h.list.keep rfl (fun _ hk hlt => ⟨rfl, .inl ⟨hk, hlt⟩⟩) (fun hk => hk.elim (fun hk => h.list.notok hk.1) (fun hk => by have := h.list.lt; omega)),
    h.ref.keep rfl (fun _ hk hlt => ⟨rfl, hk, hlt⟩) (fun hk => h.ref.notok hk.1), h.perm, h.sorted, h.short,
    fun k hk => hk.elim (fun hk => ⟨(h.hX k hk.1).1, (h.hX k hk.1).2.1, fun hz => (h.hX k hk.1).2.2 hz.1⟩) (fun hk => ⟨Nat.le_trans h.below.size hk, by have := h.ref.lt; omega, fun hz => by omega⟩),
    fun k hk => h.hZ k hk.1⟩
theorem PlayB.wideZ {w wr : World} {rb b : Nat} {l s r : List S28} {X Z : Nat → Prop} (h : PlayB w rb b l s wr X Z r) :
    PlayB w rb b l s wr (fun k => X k ∧ k < wr.heap.size) (fun k => (Z k ∧ k < wr.heap.size) ∨ wr.heap.size ≤ k) r :=
  ⟨h.below, h.hb, h.hrb, h.ne, h.list.keep rfl (fun _ hk hlt => ⟨rfl, hk, hlt⟩) (fun hk => h.list.notok hk.1),
    h.ref.keep rfl (fun _ hk hlt => ⟨rfl, .inl ⟨hk, hlt⟩⟩) (fun hk => hk.elim (fun hk => h.ref.notok hk.1) (fun hk => by have := h.ref.lt; omega)), h.perm, h.sorted, h.short,
    fun k hk => ⟨(h.hX k hk.1).1, (h.hX k hk.1).2.1, fun hz => hz.elim (fun hz => (h.hX k hk.1).2.2 hz.1) (fun hz => by omega)⟩,
    fun k hk => hk.elim (fun hk => h.hZ k hk.1) (fun hk => ⟨Nat.le_trans h.below.size hk, by have := h.list.lt; omega⟩)⟩
/-- x has moved -/
theorem PlayB.movedX {w wr w' : World} {rb b : Nat} {l l' s r : List S28} {X Z : Nat → Prop} (h : PlayB w rb b l s wr X Z r) (K : Kept X b wr w') (hl : ListAt w' b X l') : PlayB w rb b l' s w' X Z r :=
  ⟨kept_below h.below K h.hb (fun j hj => (h.hX j hj).1), h.hb, h.hrb, h.ne, hl,
    h.ref.keep (K.block rb h.ref.lt (Ne.symm h.ne) (fun hx => (h.hX rb hx).2.1 rfl)) (fun k hk hlt => ⟨K.block k hlt (h.hZ k hk).2 (fun hx => (h.hX k hx).2.2 hk), hk⟩) h.ref.notok, h.perm, h.sorted, h.short, h.hX, h.hZ⟩
/-- the reference has moved -/
theorem PlayB.movedZ {w wr w' : World} {rb b : Nat} {l s s' r r' : List S28} {X Z : Nat → Prop} (h : PlayB w rb b l s wr X Z r) (K : Kept Z rb wr w') (hr : RefAt w' rb Z r') (hp : r'.Perm s') (hs : s'.Pairwise ltF) (hl : s'.length ≤ 511) : PlayB w rb b l s' w' X Z r' :=
  ⟨kept_below h.below K h.hrb (fun j hj => (h.hZ j hj).1), h.hb, h.hrb, h.ne,
    h.list.keep (K.block b h.list.lt h.ne (fun hz => (h.hZ b hz).2 rfl)) (fun k hk hlt => ⟨K.block k hlt (h.hX k hk).2.1 (h.hX k hk).2.2, hk⟩) h.list.notok, hr, hp, hs, hl, h.hX, h.hZ⟩
theorem PlaySt.below {w wr : World} {rb b : Nat} {l s : List S28} (h : PlaySt w rb b l s wr) : Below w.heap.size w wr := by
  obtain ⟨X, Z, r, h⟩ := h
  exact h.below
/-- a world that differs in what lies behind, or was drawn -/
theorem PlaySt.later {w wr w' : World} {rb b : Nat} {l s : List S28} (h : PlaySt w rb b l s wr) (hb : Below wr.heap.size wr w') : PlaySt w rb b l s w' := by
  obtain ⟨X, Z, r, h⟩ := h
  exact ⟨X, Z, r, h.below.trans (hb.mono h.below.size), h.hb, h.hrb, h.ne, h.list.below hb, h.ref.below hb, h.perm, h.sorted, h.short, h.hX, h.hZ⟩
theorem play_add {w wr : World} {rb b : Nat} {l s : List S28} (f : S28) (h : PlaySt w rb b l s wr) :
    Calls Try.prog 11 #[.pointer (some ⟨b, 0, none⟩), .agg #[.int .i64 f.f0, .int .i64 f.f1]] wr fun e w' => e = .returned (.int .i64 (addE l f)) ∧ PlaySt w rb b (addL l f) s w' := by
  obtain ⟨X, Z, r, h⟩ := h
  have h := h.wideX
  refine (add_any wr _ b l f h.list (fun k hk => .inr hk)).mono ?_
  rintro e w' ⟨he, hl, hK⟩
  exact ⟨he, _, _, r, h.movedX hK hl⟩
theorem play_take {w wr : World} {rb b : Nat} {l s : List S28} (n : Int) (h : PlaySt w rb b l s wr) :
    Calls Try.prog 12 #[.pointer (some ⟨b, 0, none⟩), .int .i64 n] wr fun e w' => e = .returned (.tuple #[.int .i64 (takeP l n), .bool (takeB l n)]) ∧ PlaySt w rb b (takeL l n) s w' := by
  obtain ⟨X, Z, r, h⟩ := h
  have h := h.wideX
  refine (take_any wr _ b l n h.list).mono ?_
  rintro e w' ⟨he, hl, hK⟩
  exact ⟨he, _, _, r, h.movedX hK hl⟩
theorem play_refAdd {w wr : World} {rb b : Nat} {s : List S28} (f : S28) (h : PlaySt w rb b (addL s f) s wr) :
    Calls Try.prog 15 #[.pointer (some ⟨rb, 0, none⟩), .agg #[.int .i64 f.f0, .int .i64 f.f1]] wr fun e w' => e = .returned (.int .i64 (addE s f)) ∧ PlaySt w rb b (addL s f) (addL s f) w' := by
  obtain ⟨X, Z, r, h⟩ := h
  have h := h.wideZ
  obtain ⟨e1, e2⟩ := refAdd_same h.perm f
  refine (refAdd_any wr _ rb r f h.ref (fun k hk => .inr hk) h.rlen).mono ?_
  rintro e w' ⟨he, hl, hK⟩
  rw [e1] at he
  exact ⟨he, _, _, _, h.movedZ hK hl e2 h.list.sorted (length_le h.list.rights h.list.apart)⟩
theorem play_refTake {w wr : World} {rb b : Nat} {s : List S28} (n : Int) (h : PlaySt w rb b (takeL s n) s wr) :
    Calls Try.prog 16 #[.pointer (some ⟨rb, 0, none⟩), .int .i64 n] wr fun e w' => e = .returned (.tuple #[.int .i64 (takeP s n), .bool (takeB s n)]) ∧ PlaySt w rb b (takeL s n) (takeL s n) w' := by
  obtain ⟨X, Z, r, h⟩ := h
  have h := h.wideZ
  refine (refTake_any wr _ rb r s n h.ref (fun k hk => .inr hk) h.perm h.sorted h.rlen).mono ?_
  rintro e w' ⟨he, ⟨r', hp, hl⟩, hK⟩
  exact ⟨he, _, _, _, h.movedZ hK hl hp h.list.sorted (length_le h.list.rights h.list.apart)⟩
/-- the copy is made, the elder list is still there -/
def CopySt (w : World) (rb b B : Nat) (l s : List S28) (wr : World) : Prop :=
  ∃ X Y Z r, PlayB w rb b l s wr X Z r ∧ PlayB w rb B l s wr Y Z r ∧ b ≠ B ∧ (∀ k, Y k → ¬ X k ∧ k ≠ b) ∧ ¬ X B
theorem play_copy {w wr : World} {rb b : Nat} {l s : List S28} (h : PlaySt w rb b l s wr) :
    Calls Try.prog 17 #[.pointer (some ⟨b, 0, none⟩)] wr fun e w' => ∃ B, e = .returned (.pointer (some ⟨B, 0, none⟩)) ∧ CopySt w rb b B l s w' := by
  obtain ⟨X, Z, r, h⟩ := h
  refine (copy_any wr X b l h.list).mono ?_
  rintro e w' ⟨B, he, h1, h2, hl, hb⟩
  have hbl := h.list.lt
  have hrl := h.ref.lt
  refine ⟨B, he, (fun k => X k ∧ k < wr.heap.size), (fun k => wr.heap.size ≤ k ∧ k ≠ B), (fun k => Z k ∧ k < wr.heap.size), r, ?_, ?_, by omega, ?_, fun hk => by have := hk.2; omega⟩
  · exact ⟨h.below.trans (hb.mono h.below.size), h.hb, h.hrb, h.ne, h.list.keep (hb.block b hbl) (fun k hk hlt => ⟨hb.block k hlt, hk, hlt⟩) (fun hk => h.list.notok hk.1),
      h.ref.keep (hb.block rb hrl) (fun k hk hlt => ⟨hb.block k hlt, hk, hlt⟩) (fun hk => h.ref.notok hk.1), h.perm, h.sorted, h.short,
      fun k hk => ⟨(h.hX k hk.1).1, (h.hX k hk.1).2.1, fun hz => (h.hX k hk.1).2.2 hz.1⟩, fun k hk => h.hZ k hk.1⟩
  · have hbs := h.below.size
    exact ⟨h.below.trans (hb.mono h.below.size), by omega, h.hrb, by omega, hl,
      h.ref.keep (hb.block rb hrl) (fun k hk hlt => ⟨hb.block k hlt, hk, hlt⟩) (fun hk => h.ref.notok hk.1), h.perm, h.sorted, h.short,
      fun k hk => ⟨by have := hk.1; omega, by have := hk.1; omega, fun hz => by have := hk.1; have := hz.2; omega⟩, fun k hk => ⟨(h.hZ k hk.1).1, by have := hk.2; omega⟩⟩
  · intro k hk
    exact ⟨fun hx => by have := hk.1; have := hx.2; omega, by have := hk.1; omega⟩
/-- the elder list is changed: the copy is as it was -/
theorem copy_take {w wr : World} {rb b B : Nat} {l s : List S28} (n : Int) (h : CopySt w rb b B l s wr) :
    Calls Try.prog 12 #[.pointer (some ⟨b, 0, none⟩), .int .i64 n] wr fun e w' => e = .returned (.tuple #[.int .i64 (takeP l n), .bool (takeB l n)]) ∧ PlaySt w rb B l s w' := by
  obtain ⟨X, Y, Z, r, h, k, hne, hY, hB⟩ := h
  refine (take_any wr X b l n h.list).mono ?_
  rintro e w' ⟨he, hl, hK⟩
  refine ⟨he, Y, Z, r, kept_below h.below hK h.hb (fun j hj => (h.hX j hj).1), k.hb, k.hrb, k.ne, ?_, ?_, k.perm, k.sorted, k.short, k.hX, k.hZ⟩
  · exact k.list.keep (hK.block B k.list.lt (Ne.symm hne) hB) (fun j hj hlt => ⟨hK.block j hlt (hY j hj).2 (hY j hj).1, hj⟩) k.list.notok
  · exact h.ref.keep (hK.block rb h.ref.lt (Ne.symm h.ne) (fun hx => (h.hX rb hx).2.1 rfl)) (fun j hj hlt => ⟨hK.block j hlt (h.hZ j hj).2 (fun hx => (h.hX j hx).2.2 hj), hj⟩) h.ref.notok
theorem play_has {w wr : World} {rb b : Nat} {l s : List S28} (n : Int) (h : PlaySt w rb b l s wr) :
    Calls Try.prog 18 #[.pointer (some ⟨b, 0, none⟩), .int .i64 n] wr fun e w' => e = .returned (.bool (hasB l n)) ∧ w' = wr := by
  obtain ⟨X, Z, r, h⟩ := h
  exact has_any wr X b l n h.list
theorem play_refHas {w wr : World} {rb b : Nat} {l s : List S28} (n : Int) (h : PlaySt w rb b l s wr) :
    Calls Try.prog 19 #[.pointer (some ⟨rb, 0, none⟩), .int .i64 n] wr fun e w' => e = .returned (.bool (hasB s n)) ∧ w' = wr := by
  obtain ⟨X, Z, r, h⟩ := h
  rw [← hasB_perm h.perm]
  exact refHas_any wr Z rb r n h.ref h.rlen
theorem play_count {w wr : World} {rb b : Nat} {l s : List S28} (h : PlaySt w rb b l s wr) :
    Calls Try.prog 20 #[.pointer (some ⟨b, 0, none⟩)] wr fun e w' => e = .returned (.int .i64 (l.length : Int)) ∧ w' = wr := by
  obtain ⟨X, Z, r, h⟩ := h
  exact count_any wr X b l h.list
theorem Lst.form {w : World} {ok : Nat → Prop} {v : Value} {l : List S28} (h : Lst w ok v l) : ∃ A c, v = .slice A l.length c := by
  rcases h with ⟨rfl, rfl⟩ | ⟨g, off, c, rfl, _, _⟩
  · exact ⟨_, _, rfl⟩
  · exact ⟨_, _, rfl⟩
/-- the reference's slice -/
theorem play_row {w wr : World} {rb b : Nat} {l s : List S28} (h : PlaySt w rb b l s wr) : ∃ A c, wr.cell? ⟨rb, 0, none⟩ = some (.slice A s.length c) ∧ ∃ Z r, r.Perm s ∧ Lst wr Z (.slice A s.length c) r := by
  obtain ⟨X, Z, r, h⟩ := h
  obtain ⟨v, hv, L⟩ := h.ref.row
  obtain ⟨A, c, rfl⟩ := L.form
  rw [h.perm.length_eq] at hv L
  exact ⟨A, c, hv, Z, r, h.perm, L⟩
theorem play_facts {w wr : World} {rb b : Nat} {l s : List S28} (h : PlaySt w rb b l s wr) : l.Pairwise ltF ∧ l.Pairwise (fun x y => x.f1 ≠ y.f1) ∧ l.length ≤ 511 := by
  obtain ⟨X, Z, r, h⟩ := h
  exact ⟨h.list.sorted, h.list.apart, length_le h.list.rights h.list.apart⟩
theorem play_rb {w wr : World} {rb b : Nat} {l s : List S28} (h : PlaySt w rb b l s wr) : rb < wr.heap.size := by
  obtain ⟨X, Z, r, h⟩ := h
  exact h.ref.lt
theorem kd_of_lst {w : World} {ok : Nat → Prop} {A : Option Addr} {n c : Nat} {l : List S28} (h : Lst w ok (.slice A n c) l) : n = l.length ∧ l.length ≤ c ∧ Kd.C k28 w A l.length l := by
  rcases h with ⟨e, rfl⟩ | ⟨g, off, c', e, _, R⟩
  · injection e with e1 e2 e3
    subst e1 e2 e3
    exact ⟨rfl, Nat.le_refl _, rfl, by decide, fun h => absurd h (by decide)⟩
  · injection e with e1 e2 e3
    subst e1 e2 e3
    refine ⟨rfl, R.le, rfl, ?_, fun _ => ⟨⟨g, off, none⟩, rfl, fun j x hj => ⟨[.int .i64 x.f0, .int .i64 x.f1], rfl, k28_mk w x, fun i u hi => ?_⟩⟩⟩
    · have := R.le
      have := R.big
      omega
    · obtain ⟨hjl, hjv⟩ := List.getElem?_eq_some_iff.1 hj
      subst hjv
      match i, hi with
      | 0, hi => simp only [List.getElem?_cons_zero, Option.some.injEq] at hi; subst hi; rw [Addr.add_lit]; exact R.at0 j hjl
      | 1, hi => simp only [List.getElem?_cons_succ, List.getElem?_cons_zero, Option.some.injEq] at hi; subst hi; rw [Addr.add_lit]; exact R.at1 j hjl
      | i + 2, hi => simp at hi
theorem play_all {w wr : World} {rb b : Nat} {l s : List S28} (h : PlaySt w rb b l s wr) :
    Calls Try.prog 22 #[.pointer (some ⟨b, 0, none⟩)] wr fun e w' => ∃ A c, e = .returned (.slice A l.length c) ∧ l.length ≤ c ∧ Kd.C k28 w' A l.length l ∧ Below wr.heap.size wr w' := by
  obtain ⟨X, Z, r, h⟩ := h
  refine (all_any wr X b l h.list).mono ?_
  rintro e w' ⟨v, he, L, hb⟩
  obtain ⟨A, c, rfl⟩ := L.form
  obtain ⟨_, h1, h2⟩ := kd_of_lst L
  exact ⟨A, c, he, h1, h2, hb⟩
theorem sorted_any (wr : World) (Z : Nat → Prop) (A : Option Addr) (n c : Nat) (r l : List S28) (L : Lst wr Z (.slice A n c) r) (hp : r.Perm l) (hs : l.Pairwise ltF) (ha : l.Pairwise (fun x y => x.f1 ≠ y.f1)) (hl : l.length ≤ 511) :
    Calls Try.prog 23 #[.slice A n c] wr fun e w' => ∃ B d, e = .returned (.slice B l.length d) ∧ l.length ≤ d ∧ Kd.C k28 w' B l.length l ∧ Below wr.heap.size wr w' := by
  obtain ⟨rfl, hc, hC⟩ := kd_of_lst L
  obtain ⟨K, hK⟩ := sorted_f r l (by have := hp.length_eq; omega) hp hs ha
  refine (rollbookref08_Sorted.calls K A c r l wr hC hc hK).mono ?_
  rintro e w' ⟨v, he, hR, hb⟩
  obtain ⟨B, d, rfl, hd, hC'⟩ := Kd.R_reads hR
  exact ⟨B, d, he, hd, hC', hb⟩
theorem same_go (l : List S28) (hl : l.length ≤ 511) : ∀ (d i k : Nat), i + d = l.length → d < k → rollbookref08_Same.l0 k l l (i : Int) = some true
  | 0, i, k, hi, hk => by
    obtain ⟨k, rfl⟩ : ∃ q, k = q + 1 := ⟨k - 1, by omega⟩
    rw [rollbookref08_Same.l0, if_neg (by omega)]
  | d + 1, i, k, hi, hk => by
    obtain ⟨k, rfl⟩ : ∃ q, k = q + 1 := ⟨k - 1, by omega⟩
    have e1 : wrap64 ((i : Int) + 1) = ((i + 1 : Nat) : Int) := by rw [w64s (by omega) (by omega)]; rfl
    rw [rollbookref08_Same.l0, if_pos (by omega), if_pos (by omega), if_pos (by omega), if_neg (by simp), e1]
    exact same_go l hl d (i + 1) k (by omega) (by omega)
theorem same_list (A B : Option Addr) (c d : Nat) (l : List S28) (w : World) (hl : l.length ≤ 511) (hc : l.length ≤ c) (hd : l.length ≤ d) (hA : Kd.C k28 w A l.length l) (hB : Kd.C k28 w B l.length l) :
    Calls Try.prog 21 #[.slice A l.length c, .slice B l.length d] w fun e w' => e = .returned (.bool true) ∧ Below w.heap.size w w' :=
  (rollbookref08_Same.calls (l.length + 1) A c l B d l true w hA hc hB hd (by
    unfold rollbookref08_Same.f
    rw [if_pos rfl]
    exact same_go l hl l.length 0 _ (by omega) (by omega))).mono (fun e w' h => ⟨h.1, h.2.below⟩)
#print axioms play_refTake
end Go.Proofs.Ytcoddeemfdnjpaa.Free
