/- A page, or a meta, that came in by value, as the walks want it. -/
import Derived.Test.YtcoddeemfdnjpaaDoorCards
import Derived.Lib.SmallJoins
import Derived.OpenShut
import Derived.ChangeArms
import Derived.KernelRfl
namespace Go.Proofs.YtcoddeemfdnjpaaDoor
open Go.Joins Go.ChangeShapes Go.WideShapes Go.RowKit Go.Deep
set_option maxRecDepth 100000 in
theorem open_page {H : Type} {enc : TypeId × Value → H} {W : World} {r : Reach} {b0 : Nat} {v : Value} {d : DataW H} {p : List MemPlace} (hv : Value.okWide Tryd.prog W r b0 31 v) (h : DataW.Trod enc Tryd.prog W 0 (fun _ => true) true 31 v d p) :
    ∃ (k no txn : Int) (body : ByteArray), v = .agg #[.int .i64 k, .int .i64 no, .int .i64 txn, .string body] ∧ p = [] := by
  obtain ⟨a, b, c, e, ya, yb, yc, ye, n, rfl, rfl, rfl, ta, tb, tc, te⟩ := open_agg4 Tryd.underlying31 (by kernel_rfl) (by kernel_rfl) hv h
  obtain ⟨x, hx, rfl, _⟩ := DataW.trod_int Tryd.underlying3 ta
  obtain ⟨y, hy, rfl, _⟩ := DataW.trod_int Tryd.underlying3 tb
  obtain ⟨z, hz, rfl, _⟩ := DataW.trod_int Tryd.underlying3 tc
  obtain ⟨s, hs, rfl, _⟩ := DataW.trod_string Tryd.underlying9 te
  simp only [List.cons.injEq, and_true] at hx hy hz hs
  subst hx hy hz hs
  exact ⟨x, y, z, s, rfl, rfl⟩
set_option maxRecDepth 100000 in
theorem open_meta {H : Type} {enc : TypeId × Value → H} {W : World} {r : Reach} {b0 : Nat} {v : Value} {d : DataW H} {p : List MemPlace} (hv : Value.okWide Tryd.prog W r b0 46 v) (h : DataW.Trod enc Tryd.prog W 0 (fun _ => true) true 46 v d p) :
    ∃ (t r f g l : Int), v = .agg #[.int .i64 t, .int .i64 r, .int .i64 f, .int .i64 g, .int .i64 l] ∧ p = [] := by
  obtain ⟨cs, rfl, hsz⟩ := okWide_struct Tryd.underlying46 hv
  obtain ⟨l⟩ := cs
  have h5 : l.length = 5 := hsz.trans (by kernel_rfl)
  match l, h5 with
  | [c0, c1, c2, c3, c4], _ =>
    obtain ⟨fuel, hf⟩ := h
    obtain ⟨xs, n, _, hx, _, hlen, hg⟩ := DataW.trod_struct Tryd.underlying46 hf
    match xs, hlen with
    | [y0, y1, y2, y3, y4], _ =>
      simp only [Prod.mk.injEq] at hx
      have e0 : Tryd.prog.cellsOf 3 = 1 := by kernel_rfl
      have k0 : DataW.trod enc Tryd.prog W 0 (fun _ => true) true n 3 [c0] = some y0 := by simpa [e0, Value.cells] using hg 0 _ rfl
      have k1 : DataW.trod enc Tryd.prog W 0 (fun _ => true) true n 3 [c1] = some y1 := by simpa [e0, Value.cells] using hg 1 _ rfl
      have k2 : DataW.trod enc Tryd.prog W 0 (fun _ => true) true n 3 [c2] = some y2 := by simpa [e0, Value.cells] using hg 2 _ rfl
      have k3 : DataW.trod enc Tryd.prog W 0 (fun _ => true) true n 3 [c3] = some y3 := by simpa [e0, Value.cells] using hg 3 _ rfl
      have k4 : DataW.trod enc Tryd.prog W 0 (fun _ => true) true n 3 [c4] = some y4 := by simpa [e0, Value.cells] using hg 4 _ rfl
      obtain ⟨x0, h0, rfl, _⟩ := DataW.trod_int Tryd.underlying3 k0
      obtain ⟨x1, h1, rfl, _⟩ := DataW.trod_int Tryd.underlying3 k1
      obtain ⟨x2, h2, rfl, _⟩ := DataW.trod_int Tryd.underlying3 k2
      obtain ⟨x3, h3, rfl, _⟩ := DataW.trod_int Tryd.underlying3 k3
      obtain ⟨x4, h4, rfl, _⟩ := DataW.trod_int Tryd.underlying3 k4
      simp only [List.cons.injEq, and_true] at h0 h1 h2 h3 h4
      subst h0 h1 h2 h3 h4
      exact ⟨x0, x1, x2, x3, x4, rfl, by simpa using hx.2⟩
end Go.Proofs.YtcoddeemfdnjpaaDoor
