/- The examples that the statements of layer 7 end with hold: computed. -/
import Derived.Test.YtnlhnffijidioaaDoorChk22
import Derived.Test.YtnlhnffijidioaaDoorArgI
namespace Go.Proofs.YtnlhnffijidioaaDoor
open Go.Ev
theorem run07 : isBoolRun tbl 3000 216 [] true = true := by kernel_rfl
theorem kn07 : FP tbl 216 [] (.bool true) := FP_run run07
end Go.Proofs.YtnlhnffijidioaaDoor
