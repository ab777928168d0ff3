/- A page, or a meta, that came in by value, as the walks want it. -/
import Derived.Test.YtcoddeemfdnjpaaDoorCards
import Derived.Lib.SmallJoins
import Derived.OpenShut
import Derived.ChangeArms
import Derived.KernelRfl
namespace Go.Proofs.YtcoddeemfdnjpaaDoor
open Go.Joins Go.ChangeShapes Go.WideShapes Go.RowKit Go.Deep
set_option maxRecDepth 100000 in
theorem open_page {H : Type} {enc : TypeId × Value → H} {W : World} {r : Reach} {b0 : Nat} {v : Value} {d : DataW H} {p : List MemPlace} (hv : Value.okWide Tryd.prog W r b0 31 v) (h : DataW.Trod enc Tryd.prog W 0 (fun _ => true) true 31 v d p) :
    ∃ (k no txn : Int) (body : ByteArray), v = .agg #[.int .i64 k, .int .i64 no, .int .i64 txn, .string body] ∧ p = [] := by
  obtain ⟨a, b, c, e, ya, yb, yc, ye, n, rfl, rfl, rfl, ta, tb, tc, te⟩ := open_agg4 Tryd.underlying31 (by kernel_rfl) (by kernel_rfl) hv h
  obtain ⟨x, hx, rfl, _⟩ := DataW.trod_int Tryd.underlying3 ta
  obtain ⟨y, hy, rfl, _⟩ := DataW.trod_int Tryd.underlying3 tb
  obtain ⟨z, hz, rfl, _⟩ := DataW.trod_int Tryd.underlying3 tc
  obtain ⟨s, hs, rfl, _⟩ := DataW.trod_string Tryd.underlying9 te
  simp only [List.cons.injEq, and_true] at hx hy hz hs
  subst hx hy hz hs
  exact ⟨x, y, z, s, rfl, rfl⟩
end Go.Proofs.YtcoddeemfdnjpaaDoor
