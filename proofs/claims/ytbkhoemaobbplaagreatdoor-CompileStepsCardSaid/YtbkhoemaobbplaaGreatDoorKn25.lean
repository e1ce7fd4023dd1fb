/- The examples that the statements of layer 25 end with hold: computed. -/
import Derived.Test.YtbkhoemaobbplaaGreatDoorChk25
import Derived.Test.YtbkhoemaobbplaaGreatDoorEvX
set_option linter.unusedSimpArgs false
set_option linter.unusedVariables false
namespace Go.Proofs.YtbkhoemaobbplaaGreatDoor
open Go.Ev
theorem zIm:Vk dN 3000 506 [] true=true:=by kernel_rfl
theorem Wq:FP dN 506 [] (.bool true):=zDP zIm
end Go.Proofs.YtbkhoemaobbplaaGreatDoor
