/- The examples that the statements of the top end with hold: a text is read by the kernel. -/
import Derived.Test.YtbkhoemaobbplaaGreatDoorChk25
import Derived.Test.YtbkhoemaobbplaaGreatDoorEvXW
import Derived.Test.YtbkhoemaobbplaaGreatDoorTabPW
set_option linter.unusedSimpArgs false
set_option linter.unusedVariables false
namespace Go.Proofs.YtbkhoemaobbplaaGreatDoor
open Go.Ev
theorem ZC:Ya dC 3000 148 [.str [110,101,103,10,110,101,103,10,114,101,116,97,10]] (.bc [FL nK,.int .i64 0,.int .i64 0])=true:=by kernel_rfl
theorem zNm:FP dC 484 [] (.bool true):=zFk (zF9 ZC)
end Go.Proofs.YtbkhoemaobbplaaGreatDoor
