/- The examples that the statements of layer 22 end with hold: computed. -/
import Derived.Test.YtcjnmejhdoeafaaDoorChk22p
import Derived.Test.YtcjnmejhdoeafaaDoorEvXW
set_option linter.unusedVariables false
set_option linter.unusedSimpArgs false
namespace Go.Ev
open Go Go.RowKit
end Go.Ev
namespace Go.Proofs.YtcjnmejhdoeafaaDoor
open Go.Ev
theorem run22p : isBoolRun tbl 3000 224 [] true = true := by kernel_rfl
theorem kn22p : FP tbl 224 [] (.bool true) := FP_run run22p
end Go.Proofs.YtcjnmejhdoeafaaDoor
