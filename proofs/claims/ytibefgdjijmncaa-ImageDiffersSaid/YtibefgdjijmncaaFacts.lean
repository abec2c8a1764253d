/- The closed facts of the program alone, that every row of this seat asks. -/
import Derived.Test.YtibefgdjijmncaaRows
import Derived.ProofKit
namespace Go.Proofs.Ytibefgdjijmncaa
theorem Try.shared1 : laidOutB Try.pinned.checked.prog = true := by kernel_rfl
theorem Try.shared2 : mapsRowed Try.pinned.checked.prog = true := by kernel_rfl
theorem Try.shared6 : (Try.pinned.checked.prog.stops == []) = true := by kernel_rfl
theorem Try.shared8 : (Try.pinned.checked.prog.stopKnobs == []) = true := by kernel_rfl
theorem Try.shared24 : Try.pinned.checked.prog.stopsHeard = true := by kernel_rfl
theorem Try.shared25 : Try.pinned.checked.prog.mayEnter = true := by kernel_rfl
theorem Try.shared22 : Try.pinned.checked.prog.plainKeys = Rows.imageBytesRow.plainKeys := by kernel_rfl
theorem Try.shared26 : Try.pinned.checked.prog.liftsFinal = Rows.imageBytesRow.lifted := by kernel_rfl
theorem Try.shared27 : Try.pinned.checked.prog.make = some Rows.imageBytesRow.make := by kernel_rfl
theorem Try.ownK : ownKnob Try.prog.godebug = Option.none := by kernel_rfl
end Go.Proofs.Ytibefgdjijmncaa
