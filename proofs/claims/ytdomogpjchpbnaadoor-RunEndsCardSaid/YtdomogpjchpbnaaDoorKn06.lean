/- The examples that the statements of layer 6 end with hold: computed. -/
import Derived.Test.YtdomogpjchpbnaaDoorChk06
import Derived.Test.YtdomogpjchpbnaaDoorArgI
namespace Go.Proofs.YtdomogpjchpbnaaDoor
open Go.Ev
theorem run06 : isBoolRun tbl 3000 235 [] true = true := by kernel_rfl
theorem kn06 : FP tbl 235 [] (.bool true) := FP_run run06
end Go.Proofs.YtdomogpjchpbnaaDoor
