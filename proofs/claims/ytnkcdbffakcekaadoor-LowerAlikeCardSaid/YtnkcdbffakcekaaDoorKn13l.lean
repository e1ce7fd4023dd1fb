/- The examples that the statements of layer 13 end with hold: computed. -/
import Derived.Test.YtnkcdbffakcekaaDoorNat13l
import Derived.Test.YtnkcdbffakcekaaDoorEvX
set_option linter.unusedVariables false
set_option linter.unusedSimpArgs false
namespace Go.Proofs.YtnkcdbffakcekaaDoor
open Go.Ev
theorem run13l : isBoolRun tbl 3000 443 [] true = true := by kernel_rfl
theorem kn13l : FP tbl 443 [] (.bool true) := FP_run run13l
end Go.Proofs.YtnkcdbffakcekaaDoor
