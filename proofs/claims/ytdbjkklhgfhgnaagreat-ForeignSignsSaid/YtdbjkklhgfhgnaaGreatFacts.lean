/- The closed facts of the program alone, that every row of this seat asks. -/
import Derived.Test.YtdbjkklhgfhgnaaGreatRows
import Derived.ProofKit
namespace Go.Proofs.YtdbjkklhgfhgnaaGreat
theorem Tryz.shared1 : laidOutB Tryz.pinned.checked.prog = true := by kernel_rfl
theorem Tryz.shared2 : mapsRowed Tryz.pinned.checked.prog = true := by kernel_rfl
theorem Tryz.shared6 : (Tryz.pinned.checked.prog.stops == []) = true := by kernel_rfl
theorem Tryz.shared8 : (Tryz.pinned.checked.prog.stopKnobs == []) = true := by kernel_rfl
theorem Tryz.shared24 : Tryz.pinned.checked.prog.stopsHeard = true := by kernel_rfl
theorem Tryz.shared25 : Tryz.pinned.checked.prog.mayEnter = true := by kernel_rfl
theorem Tryz.shared22 : Tryz.pinned.checked.prog.plainKeys = Rows.storeNoneRow.plainKeys := by kernel_rfl
theorem Tryz.shared26 : Tryz.pinned.checked.prog.liftsFinal = Rows.storeNoneRow.lifted := by kernel_rfl
theorem Tryz.shared27 : Tryz.pinned.checked.prog.make = some Rows.storeNoneRow.make := by kernel_rfl
theorem Tryz.ownK : ownKnob Tryz.prog.godebug = Option.none := by kernel_rfl
end Go.Proofs.YtdbjkklhgfhgnaaGreat
