/- What the cards over Go's own table of first bytes lean on: the world of the witness, with that table and the accept ranges laid; a cell of the library's own. -/
import Derived.Test.YtcoddeemfdnjpaaDoorBase
import Derived.Test.YtcoddeemfdnjpaaDoorShelf
namespace Go.Proofs.YtcoddeemfdnjpaaDoor
def cellOf : DataW Unit → Value
  | .lit (.int k n) => .int k n
  | _ => .int .u8 0
def cellsOf1 : DataW Unit → List Value
  | .agg l => l.map cellOf
  | _ => []
/-- THE WORLD OF THE WITNESS: the settled one, the two tables holding what their texts lay. -/
noncomputable def laidWorldP (os : Os) : World :=
  let w := World.holding Tryd.prog os ⟨#[], #[], []⟩
  let f : Obj → Obj := fun x => match x with
    | .cells _ t frozen => .cells (cellsOf1 Go.Pinned.utf8First).toArray t frozen
    | o => o
  let g : Obj → Obj := fun x => match x with
    | .cells _ t frozen => .cells #[.int .u8 128, .int .u8 191, .int .u8 160, .int .u8 191, .int .u8 128, .int .u8 159, .int .u8 144, .int .u8 191, .int .u8 128, .int .u8 143, .int .u8 0, .int .u8 0, .int .u8 0, .int .u8 0, .int .u8 0, .int .u8 0, .int .u8 0, .int .u8 0, .int .u8 0, .int .u8 0, .int .u8 0, .int .u8 0, .int .u8 0, .int .u8 0, .int .u8 0, .int .u8 0, .int .u8 0, .int .u8 0, .int .u8 0, .int .u8 0, .int .u8 0, .int .u8 0] t frozen
    | o => o
  { w with heap := (w.heap.modify 2 f).modify 3 g }
theorem maxLen_cell {W : World} (h : W.ShapedOpen Tryd.prog) : ∃ m, W.cell? ⟨1, 0, none⟩ = some (.int .i64 m) := Tryd.laysM219.s1_3 W h
end Go.Proofs.YtcoddeemfdnjpaaDoor
