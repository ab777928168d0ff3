/- List.Take: whatever the list. -/
import Derived.Test.YtcoddeemfdnjpaaFreeAddOk
namespace Go.Proofs.Ytcoddeemfdnjpaa.Free
open Go.RowKit Go.Lib Go.Proofs.Ytcoddeemfdnjpaa.Fn
/-- what 'Take' leaves, and tells -/
def takeL (l : List S28) (n : Int) : List S28 := match l with
  | [] => []
  | x :: r => if x.f0 ≤ n then r else x :: r
def takeP (l : List S28) (n : Int) : Int := match l with
  | [] => 0
  | x :: _ => if x.f0 ≤ n then x.f1 else 0
def takeB (l : List S28) (n : Int) : Bool := match l with
  | [] => false
  | x :: _ => decide (x.f0 ≤ n)
def TakeSt (ok : Nat → Prop) (b : Nat) (l : List S28) (n : Int) (w : World) (e : Ending) (w' : World) : Prop :=
  e = .returned (.tuple #[.int .i64 (takeP l n), .bool (takeB l n)]) ∧ ListAt w' b ok (takeL l n) ∧ Kept ok b w w'
set_option maxHeartbeats 800000 in
set_option maxRecDepth 100000 in
theorem take_nil (w : World) (n : Int) : Calls Try.prog 12 #[.pointer none, .int .i64 n] w fun e w' => e = .returned (.tuple #[.int .i64 0, .bool false]) ∧ w' = w := by
  go_enter Try.func12, Try.ntmps12
  go_wp2
  go_ret2
  exact ⟨rfl, rfl⟩
set_option maxHeartbeats 800000 in
set_option maxRecDepth 100000 in
theorem take_empty (w : World) (b : Nat) (A : Option Addr) (c : Nat) (n : Int) (hv : w.cell? ⟨b, 0, none⟩ = some (.slice A 0 c)) :
    Calls Try.prog 12 #[.pointer (some ⟨b, 0, none⟩), .int .i64 n] w fun e w' => e = .returned (.tuple #[.int .i64 0, .bool false]) ∧ w' = w := by
  go_enter Try.func12, Try.ntmps12
  go_wp2
  go_ret2
  exact ⟨rfl, rfl⟩
set_option maxHeartbeats 800000 in
set_option maxRecDepth 100000 in
theorem take_late (w : World) (b g off c k : Nat) (t n : Int) (hv : w.cell? ⟨b, 0, none⟩ = some (.slice (some ⟨g, off, none⟩) (k + 1) c)) (h0 : w.cell? ⟨g, off, none⟩ = some (.int .i64 t)) (ht : n < t) :
    Calls Try.prog 12 #[.pointer (some ⟨b, 0, none⟩), .int .i64 n] w fun e w' => e = .returned (.tuple #[.int .i64 0, .bool false]) ∧ w' = w := by
  have hk : ¬ ((k : Int) + 1 = 0) := by omega
  have hk1 : (0 : Int) < (k : Int) + 1 := by omega
  go_enter Try.func12, Try.ntmps12
  go_wp2
  go_ret2
  exact ⟨rfl, rfl⟩
set_option maxHeartbeats 800000 in
set_option maxRecDepth 100000 in
theorem take_ok (w : World) (b g off c k p : Nat) (t n : Int) (hv : w.cell? ⟨b, 0, none⟩ = some (.slice (some ⟨g, off, none⟩) (k + 1) c)) (h0 : w.cell? ⟨g, off, none⟩ = some (.int .i64 t)) (h1 : w.cell? ⟨g, off + 1, none⟩ = some (.int .i64 (p : Int)))
    (u : Value) (hc : w.cell? ⟨b, 1 + p, none⟩ = some u) (hf : ∀ j, w.frozen? ⟨b, j, none⟩ = false) (hp : p < 512) (ht : t ≤ n) (hck : k + 1 ≤ c) :
    Calls Try.prog 12 #[.pointer (some ⟨b, 0, none⟩), .int .i64 n] w fun e w' => e = .returned (.tuple #[.int .i64 (p : Int), .bool true]) ∧
      w' = (w.setCell ⟨b, 0, none⟩ (.slice (some (if c = 1 then ⟨g, off, none⟩ else ⟨g, off + 2, none⟩)) k (c - 1))).setCell ⟨b, 1 + p, none⟩ (.bool false) := by
  have hk : ¬ ((k : Int) + 1 = 0) := by omega
  have hk1 : (0 : Int) < (k : Int) + 1 := by omega
  have hk2 : (1 : Int) ≤ (k : Int) + 1 := by omega
  have hp6 : (p : Int) < 512 := by omega
  have hf0 := hf 0
  have hf1 := hf (1 + p)
  clear hf
  have ht' : ¬ (n < t) := by omega
  by_cases hc1 : c = 1
  · subst hc1
    have hk0 : k = 0 := by omega
    subst hk0
    go_enter Try.func12, Try.ntmps12
    go_wp2
    go_ret2
    exact ⟨rfl, rfl⟩
  · rw [if_neg hc1]
    go_enter Try.func12, Try.ntmps12
    go_wp2
    go_ret2
    exact ⟨rfl, rfl⟩
theorem cell_setCell_nb (w : World) (b b' o o' : Nat) (u : Value) (h : b ≠ b') : (w.setCell ⟨b', o', none⟩ u).cell? ⟨b, o, none⟩ = w.cell? ⟨b, o, none⟩ :=
  World.cell?_setCell_other _ _ _ _ (fun e => h (by injection e with e1 e2; exact e1.symm))
theorem isIn_tail {x : S28} {r : List S28} (h : (x :: r).Pairwise (fun x y => x.f1 ≠ y.f1)) (q : Nat) : isIn r q = (isIn (x :: r) q && !decide (x.f1 = (q : Int))) := by
  obtain ⟨h1, _⟩ := List.pairwise_cons.1 h
  rw [Bool.eq_iff_iff, Bool.and_eq_true, isIn_iff, isIn_iff]
  simp only [Bool.not_eq_true', decide_eq_false_iff_not]
  constructor
  · rintro ⟨y, hy, e⟩
    exact ⟨⟨y, List.mem_cons_of_mem _ hy, e⟩, fun e2 => h1 y hy (by rw [e, e2])⟩
  · rintro ⟨⟨y, hy, e⟩, hn⟩
    rcases List.mem_cons.1 hy with rfl | hy
    · exact absurd e hn
    · exact ⟨y, hy, e⟩
theorem take_any (w : World) (ok : Nat → Prop) (b : Nat) (l : List S28) (n : Int) (H : ListAt w b ok l) :
    Calls Try.prog 12 #[.pointer (some ⟨b, 0, none⟩), .int .i64 n] w (TakeSt ok b l n w) := by
  obtain ⟨v, hv, L⟩ := H.row
  have empty : ∀ A c, l = [] → v = .slice A 0 c → Calls Try.prog 12 #[.pointer (some ⟨b, 0, none⟩), .int .i64 n] w (TakeSt ok b l n w) := by
    rintro A c rfl rfl
    refine (take_empty w b A c n hv).mono ?_
    rintro e w' ⟨rfl, rfl⟩
    exact ⟨rfl, H, .of_below (Below.refl _ _)⟩
  rcases L with ⟨e1, e2⟩ | ⟨g, off, c, e1, hg, R⟩
  · exact empty none 0 e2 e1
  · cases l with
    | nil => exact empty _ c rfl e1
    | cons x r =>
      have hgb : g ≠ b := fun e => H.notok (e ▸ hg)
      have h0 := R.at0 0 (by simp)
      have h1 := R.at1 0 (by simp)
      simp only [Nat.zero_mul, Nat.add_zero, List.getElem_cons_zero] at h0 h1
      subst e1
      by_cases hx : x.f0 ≤ n
      · have hr := H.rights x List.mem_cons_self
        obtain ⟨p, hp⟩ : ∃ p : Nat, x.f1 = (p : Int) := ⟨x.f1.toNat, by unfold right at hr; omega⟩
        have hp5 : p < 512 := by unfold right at hr; omega
        have hh := H.here p hp5
        rw [hp] at h1
        refine (take_ok w b g off c r.length p x.f0 n hv h0 h1 _ hh H.froz hp5 hx R.le).mono ?_
        rintro e w' ⟨rfl, rfl⟩
        obtain ⟨_, hs2⟩ := List.pairwise_cons.1 H.sorted
        obtain ⟨_, ha2⟩ := List.pairwise_cons.1 H.apart
        refine ⟨by simp [takeP, takeB, hx, hp], ?_, ⟨rfl, rfl, rfl, by simp [World.setCell], fun k hk hkb _ => ?_⟩⟩
        · have el : takeL (x :: r) n = r := by simp [takeL, hx]
          rw [el]
          have hgs : ∀ (V : Value), ((w.setCell ⟨b, 0, none⟩ V).setCell ⟨b, 1 + p, none⟩ (.bool false)).heap[g]? = w.heap[g]? := fun V => by
            rw [Below.heap_setCell _ _ _ _ hgb]
            exact Below.heap_setCell w _ _ _ hgb
          refine ⟨⟨.slice (some (if c = 1 then ⟨g, off, none⟩ else ⟨g, off + 2, none⟩)) r.length (c - 1), ?_, Or.inr ?_⟩, fun q hq => ?_, fun j => ?_, H.notok, fun y hy => H.rights y (List.mem_cons_of_mem _ hy), hs2, ha2⟩
          · rw [cell_setCell_ne _ _ _ _ _ (by omega)]
            exact World.cell?_setCell_same w _ _ hv
          · by_cases hc1 : c = 1
            · subst hc1
              have hr0 : r = [] := by
                have := R.le
                cases r with
                | nil => rfl
                | cons => simp at this
              subst hr0
              exact ⟨g, off, 0, by simp, hg, R.tail1.keep (hgs _)⟩
            · exact ⟨g, off + 2, c - 1, by simp [hc1], hg, (R.tail hc1).keep (hgs _)⟩
          · rw [isIn_tail H.apart q, hp]
            by_cases hqp : p = q
            · subst hqp
              simp only [decide_true, Bool.not_true, Bool.and_false]
              refine World.cell?_setCell_same _ ⟨b, 1 + p, none⟩ _ (u := .bool (isIn (x :: r) p)) ?_
              rw [cell_setCell_ne _ _ _ _ _ (by omega)]
              exact hh
            · have : decide ((p : Int) = (q : Int)) = false := decide_eq_false (by omega)
              rw [this, Bool.not_false, Bool.and_true, cell_setCell_ne _ _ _ _ _ (by omega), cell_setCell_ne _ _ _ _ _ (by omega)]
              exact H.here q hq
          · rw [World.frozen?_setCell, World.frozen?_setCell]
            exact H.froz j
        · rw [Below.heap_setCell _ _ _ _ hkb]
          exact Below.heap_setCell w _ _ _ hkb
      · refine (take_late w b g off c r.length x.f0 n hv h0 (by omega)).mono ?_
        rintro e w' ⟨rfl, rfl⟩
        exact ⟨by simp [takeP, takeB, hx], by simpa [takeL, hx] using H, .of_below (Below.refl _ _)⟩
#print axioms take_any
end Go.Proofs.Ytcoddeemfdnjpaa.Free
