/- The examples that the statements of layer 22 end with hold: computed. -/
import Derived.Test.YtkodfphojbfieaaGreatDoorChk18z
import Derived.Test.YtkodfphojbfieaaGreatDoorEvX
set_option linter.unusedVariables false
set_option linter.unusedSimpArgs false
namespace Go.Proofs.YtkodfphojbfieaaGreatDoor
open Go.Ev
theorem run22 : isBoolRun tbl 3000 224 [] true = true := by kernel_rfl
theorem kn22 : FP tbl 224 [] (.bool true) := FP_run run22
end Go.Proofs.YtkodfphojbfieaaGreatDoor
