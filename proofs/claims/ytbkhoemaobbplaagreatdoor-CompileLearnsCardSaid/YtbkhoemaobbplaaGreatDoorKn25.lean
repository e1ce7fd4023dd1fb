/- The examples that the statements of layer 25 end with hold: computed. -/
import Derived.Test.YtbkhoemaobbplaaGreatDoorChk25
import Derived.Test.YtbkhoemaobbplaaGreatDoorEvMW
set_option linter.unusedSimpArgs false
set_option linter.unusedVariables false
namespace Go.Proofs.YtbkhoemaobbplaaGreatDoor
open Go.Ev
theorem zKP:YH dq 3000 506 [] true=true:=by kernel_rfl
theorem Ze:FP dq 506 [] (.bool true):=zFU zKP
end Go.Proofs.YtbkhoemaobbplaaGreatDoor
