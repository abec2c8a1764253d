/- Layer 18 (store), law StoreNone: for every place and data it returns true. By the kernel's reckoning. No condition. -/
import Derived.Test.YtdbjkklhgfhgnaaGreatStA
namespace Go.Proofs.YtdbjkklhgfhgnaaGreat
open Go.RowKit Sz
set_option maxRecDepth 20000
set_option maxHeartbeats 4000000
theorem run3 (p : Int) (d : ByteArray) : runsToA T6 1000 60 3 [.v (.int .i64 p), .v (.string d)] (.v (.bool true)) = true := by kernel_rfl
def c3 [Inp] : Trans := fun args m k => match args with
  | [.v (.int .i64 p), .v (.string d)] => k (.v (.bool true)) m
  | _ => False
theorem r3_ok [Inp] (p : Int) (d : ByteArray) : Contract Tryz.prog 3 true (fun a m k => a = [.v (.int .i64 p), .v (.string d)] ∧ k (.v (.bool true)) m) :=
  .runsA T6_ok 1000 60 (run3 p d) _ fun a m k h => h
theorem c3_ok [Inp] : Contract Tryz.prog 3 true c3 := ⟨(r3_ok 0 ByteArray.empty).enter, fun args m k base w0 W r vs h => by
  unfold c3 at h
  split at h
  · rename_i p d
    exact (r3_ok p d).calls _ m k base w0 W r vs ⟨rfl, h⟩
  · exact h.elim⟩
end Go.Proofs.YtdbjkklhgfhgnaaGreat
