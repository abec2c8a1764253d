/- Layer 45 (foreign): the law's own document comes to true. By the kernel's reckoning. No condition. -/
import Derived.Test.YtdbjkklhgfhgnaaGreatFoS
namespace Go.Proofs.YtdbjkklhgfhgnaaGreat
open Go.RowKit Sz
set_option linter.unusedVariables false
set_option maxRecDepth 20000
set_option maxHeartbeats 4000000
theorem run43 : runsTo T43n29 1000 60 43 [] (.v (.bool true)) = true := by kernel_rfl
def c43 [Inp] : Trans := fun args m k => args = [] ∧ k (.v (.bool true)) m
theorem c43_ok [Inp] : Contract Tryz.prog 43 true c43 := .runs T43n29_ok 1000 60 run43 _ fun a m k h => ⟨h.1, h.2⟩
end Go.Proofs.YtdbjkklhgfhgnaaGreat
