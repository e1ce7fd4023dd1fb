/- The examples that the statements of layer 16 end with hold: computed. -/
import Derived.Test.YtdomogpjchpbnaaChk16
import Derived.Test.YtdomogpjchpbnaaEvX
namespace Go.Proofs.Ytdomogpjchpbnaa
open Go.Ev
theorem run16 : isBoolRun tbl 12000 284 [] true = true := by kernel_rfl
theorem kn16 : FP tbl 284 [] (.bool true) := FP_run run16
end Go.Proofs.Ytdomogpjchpbnaa
