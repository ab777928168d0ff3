/- What came in, as the walks want it: a free page, a list of them, a list of calls. -/
import Derived.Test.YtcoddeemfdnjpaaFreeBase
import Derived.Test.YtcoddeemfdnjpaaFnBase
import Derived.Lib.SmallJoins
import Derived.Carry
import Derived.ChangeArms
import Derived.Deep.SlicePairs
namespace Go.Proofs.Ytcoddeemfdnjpaa
open Go.Joins Go.ChangeShapes Go.WideShapes Go.RowKit Go.Deep
open Go.Proofs.YtcoddeemfdnjpaaW.PrintWords Go.Proofs.Ytcoddeemfdnjpaa.Fn
theorem laidOut : laidOutB Try.prog = true := by kernel_rfl
set_option maxRecDepth 100000 in
theorem open_free {H : Type} {enc : TypeId × Value → H} {W : World} {r : Reach} {b0 : Nat} {v : Value} {d : DataW H} {p : List MemPlace} (hv : Value.okWide Try.prog W r b0 28 v) (h : DataW.Trod enc Try.prog W 0 (fun _ => true) true 28 v d p) :
    ∃ (x y : Int), v = .agg #[.int .i64 x, .int .i64 y] ∧ p = [] := by
  obtain ⟨a, b, ya, yb, n, rfl, rfl, rfl, ta, tb⟩ := open_agg2 Try.underlying28 (by kernel_rfl) (by kernel_rfl) hv h
  obtain ⟨x, hx, rfl, _⟩ := DataW.trod_int Try.underlying3 ta
  obtain ⟨y, hy, rfl, _⟩ := DataW.trod_int Try.underlying3 tb
  simp only [List.cons.injEq, and_true] at hx hy
  subst hx hy
  exact ⟨x, y, rfl, rfl⟩
theorem spot_none {w : World} {a : Addr} {v : Value} (h : w.cell? a = some v) : a.spot = none := by
  unfold World.cell? at h
  split at h
  · split at h
    · cases h
    · rename_i hs; simpa using hs
  · cases h
instance : Inhabited S28 := ⟨⟨0, 0⟩⟩
set_option maxRecDepth 100000 in
theorem open_frees {H : Type} {enc : TypeId × Value → H} {W : World} {a0 : Option Addr} {n c : Nat} {d : DataW H} {p : List MemPlace} (h : DataW.Trod enc Try.prog W 0 (fun _ => true) true 39 (.slice a0 n c) d p) :
    ∃ l : List S28, l.length = n ∧ n ≤ c ∧ Kd.C k28 W a0 l.length l := by
  obtain ⟨fuel, hf⟩ := h
  rcases open_slice_pairs Try.underlying39 Try.underlying28 (by kernel_rfl) (by kernel_rfl) (by kernel_rfl) (by kernel_rfl) (by kernel_rfl) hf with ⟨hcs, hx⟩ | ⟨a, len, cap, m, q, V0, V1, D0, D1, P0, P1, hcs, hb, hl, hm, hmm, hx, hcell⟩
  · simp [Value.cells] at hcs
    obtain ⟨rfl, rfl, rfl⟩ := hcs
    exact ⟨[], rfl, Nat.le_refl _, ⟨rfl, by decide, fun h => absurd h (by decide)⟩⟩
  · simp [Value.cells] at hcs
    obtain ⟨rfl, rfl, rfl⟩ := hcs
    have hnm : n ≤ m := by rw [hmm]; split <;> omega
    have each : ∀ i, i < n → ∃ x : S28, W.cell? (a.add (i * 2)) = some (.int .i64 x.f0) ∧ W.cell? (a.add (i * 2 + 1)) = some (.int .i64 x.f1) := by
      intro i hi
      obtain ⟨h0, h1, t0, t1⟩ := hcell i (by omega)
      obtain ⟨x, hx, _, _⟩ := DataW.trod_int Try.underlying3 t0
      obtain ⟨y, hy, _, _⟩ := DataW.trod_int Try.underlying3 t1
      simp only [List.cons.injEq, and_true] at hx hy
      rw [hx] at h0
      rw [hy] at h1
      exact ⟨⟨x, y⟩, h0, h1⟩
    obtain ⟨f, hf⟩ := choose_lt each
    refine ⟨(List.range n).map f, by simp, hl, by simp, ?_, fun _ => ⟨a, rfl, fun j x hj => ⟨[.int .i64 x.f0, .int .i64 x.f1], rfl, k28_mk W x, fun i u hi => ?_⟩⟩⟩
    · have : c ≤ 9223372036854775807 := hm
      simp
      omega
    · have hj' := List.getElem?_eq_some_iff.1 hj
      obtain ⟨hjl, hjv⟩ := hj'
      simp at hjl hjv
      subst hjv
      match i, hi with
      | 0, hi => simp only [List.getElem?_cons_zero, Option.some.injEq] at hi; subst hi; exact (hf j hjl).1
      | 1, hi => simp only [List.getElem?_cons_succ, List.getElem?_cons_zero, Option.some.injEq] at hi; subst hi; exact (hf j hjl).2
      | i + 2, hi => simp at hi
/-- one call that is played -/
structure Act where
  k : Int
  f : S28
  n : Int
instance : Inhabited Act := ⟨⟨0, ⟨0, 0⟩, 0⟩⟩
def ActsAt (W : World) (g off : Nat) (l : List Act) : Prop :=
  ∀ i (h : i < l.length), W.cell? ⟨g, off + i * 4, none⟩ = some (.int .i64 l[i].k) ∧ W.cell? ⟨g, off + i * 4 + 1, none⟩ = some (.int .i64 l[i].f.f0) ∧ W.cell? ⟨g, off + i * 4 + 2, none⟩ = some (.int .i64 l[i].f.f1) ∧ W.cell? ⟨g, off + i * 4 + 3, none⟩ = some (.int .i64 l[i].n)
def Acts (W : World) (A : Option Addr) (l : List Act) : Prop := l.length ≤ 9223372036854775807 ∧ (l = [] ∨ ∃ g off, A = some ⟨g, off, none⟩ ∧ ActsAt W g off l)
set_option maxRecDepth 100000 in
theorem open_acts {H : Type} {enc : TypeId × Value → H} {W : World} {a0 : Option Addr} {n c : Nat} {d : DataW H} {p : List MemPlace} (h : DataW.Trod enc Try.prog W 0 (fun _ => true) true 22 (.slice a0 n c) d p) :
    ∃ l : List Act, l.length = n ∧ n ≤ c ∧ Acts W a0 l := by
  obtain ⟨fuel, hf⟩ := h
  rcases open_slice Try.underlying22 hf with ⟨hcs, hx⟩ | ⟨a, len, cap, m, q, D, Pl, hcs, hb, hl, hm, hmm, hx, hcell⟩
  · simp [Value.cells] at hcs
    obtain ⟨rfl, rfl, rfl⟩ := hcs
    exact ⟨[], rfl, Nat.le_refl _, by decide, .inl rfl⟩
  · simp [Value.cells] at hcs
    obtain ⟨rfl, rfl, rfl⟩ := hcs
    have hnm : n ≤ m := by rw [hmm]; split <;> omega
    have ce : Try.prog.cellsOf 30 = 4 := by kernel_rfl
    have ce28 : Try.prog.cellsOf 28 = 2 := by kernel_rfl
    have ce3 : Try.prog.cellsOf 3 = 1 := by kernel_rfl
    have each : ∀ i, i < n → ∃ x : Act, W.cell? (a.add (i * 4)) = some (.int .i64 x.k) ∧ W.cell? (a.add (i * 4 + 1)) = some (.int .i64 x.f.f0) ∧ W.cell? (a.add (i * 4 + 2)) = some (.int .i64 x.f.f1) ∧ W.cell? (a.add (i * 4 + 3)) = some (.int .i64 x.n) := by
      intro i hi
      obtain ⟨cs', h1, h2⟩ := hcell i (by omega)
      rw [ce] at h1
      obtain ⟨_, hlen, hc⟩ := World.cells?_some h1
      obtain ⟨xs, k, hk, hxy, _, hxl, hf⟩ := DataW.trod_struct Try.underlying30 h2
      match xs, hxl, cs', hlen with
      | [y0, y1, y2], _, [u0, u1, u2, u3], _ =>
        have g0 := hf 0 _ rfl
        have g1 := hf 1 _ rfl
        have g2 := hf 2 _ rfl
        simp [ce28, ce3] at g0 g1 g2
        obtain ⟨xs', k', hk', hxy', _, hxl', hf'⟩ := DataW.trod_struct Try.underlying28 g1
        match xs', hxl' with
        | [z0, z1], _ =>
          have m0 := hf' 0 _ rfl
          have m1 := hf' 1 _ rfl
          simp [ce3] at m0 m1
          obtain ⟨x0, e0, _, _⟩ := DataW.trod_int Try.underlying3 g0
          obtain ⟨x1, e1, _, _⟩ := DataW.trod_int Try.underlying3 m0
          obtain ⟨x2, e2, _, _⟩ := DataW.trod_int Try.underlying3 m1
          obtain ⟨x3, e3, _, _⟩ := DataW.trod_int Try.underlying3 g2
          simp only [List.cons.injEq, and_true] at e0 e1 e2 e3
          subst e0 e1 e2 e3
          have q0 := hc 0 (by omega)
          have q1 := hc 1 (by omega)
          have q2 := hc 2 (by omega)
          have q3 := hc 3 (by omega)
          rw [Deep.add_add] at q0 q1 q2 q3
          exact ⟨⟨x0, ⟨x1, x2⟩, x3⟩, by simpa using q0, by simpa using q1, by simpa using q2, by simpa using q3⟩
    obtain ⟨f, hf⟩ := choose_lt each
    have hc' : c ≤ 9223372036854775807 := hm
    refine ⟨(List.range n).map f, by simp, hl, by simp; omega, ?_⟩
    rcases Nat.eq_zero_or_pos n with rfl | hpos
    · exact .inl rfl
    · obtain ⟨g, off, sp⟩ := a
      have hs : sp = none := spot_none (by simpa [Addr.add] using (hf 0 hpos).1)
      subst hs
      refine .inr ⟨g, off, rfl, fun i hi => ?_⟩
      simp only [List.length_map, List.length_range] at hi
      have := hf i hi
      simp only [Addr.add_lit] at this
      simpa [Nat.add_assoc] using this
#print axioms open_acts
end Go.Proofs.Ytcoddeemfdnjpaa
