/- The examples that the statements of layer 25 end with hold: computed. -/
import Derived.Test.YtbkhoemaobbplaaGreatDoorChk25
import Derived.Test.YtbkhoemaobbplaaGreatDoorEvBitsCW
set_option linter.unusedSimpArgs false
set_option linter.unusedVariables false
namespace Go.Proofs.YtbkhoemaobbplaaGreatDoor
open Go.Ev
theorem zM4:WI dB 3000 506 [] true=true:=by kernel_rfl
theorem O2:FP dB 506 [] (.bool true):=zHy zM4
end Go.Proofs.YtbkhoemaobbplaaGreatDoor
