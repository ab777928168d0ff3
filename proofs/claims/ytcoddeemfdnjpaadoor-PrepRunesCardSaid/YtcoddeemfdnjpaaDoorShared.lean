/- What the cards of this seat share: a way to take a row's closed facts one by one, and the facts on the whole program, which cost the kernel most. -/
import Derived.Test.YtcoddeemfdnjpaaDoorCards
import Derived.JoinedOf
import Derived.KernelRfl
namespace Go.Proofs.YtcoddeemfdnjpaaDoor
open Go
theorem progIs : Tryd.pinned.checked.prog = Tryd.prog := by kernel_rfl
theorem and_intro {a b : Bool} (ha : a = true) (hb : b = true) : (a && b) = true := by rw [ha, hb]; rfl
theorem harnessMain : Tryd.pinned.checked.prog.mainIs = some (true, "29c3a8e9f3f272036fb88436435e3cbc7fce43204ef3e6df1a557c4d4dbff5f4".toList) := by kernel_rfl
theorem noLooks : false = Tryd.pinned.checked.prog.looks [] := by kernel_rfl
theorem mayEnter : Tryd.prog.mayEnter = true := by kernel_rfl
theorem liftsAre : (Rows.crcSumsRow.lifted == Tryd.prog.liftsFinal) = true := by kernel_rfl
theorem makeIs : (Tryd.prog.make == some Rows.crcSumsRow.make) = true := by kernel_rfl
theorem liftsAre' (c : OpenClaim) (h : c.lifted = Rows.crcSumsRow.lifted) : (c.lifted == Tryd.prog.liftsFinal) = true := by rw [h]; exact liftsAre
theorem makeIs' (c : OpenClaim) (h : c.make = Rows.crcSumsRow.make) : (Tryd.prog.make == some c.make) = true := by rw [h]; exact makeIs
theorem laidOut : laidOutB Tryd.prog = true := by kernel_rfl
theorem mapsAre : mapsRowed Tryd.prog = true := by kernel_rfl
theorem stopsHeard : Tryd.prog.stopsHeard = true := by kernel_rfl
end Go.Proofs.YtcoddeemfdnjpaaDoor
