/- The examples that the statements of layer 24 end with hold: the text is read by the kernel. -/
import Derived.Test.YtogjnjnabikdpaaGreatDoorChk24
import Derived.Test.YtogjnjnabikdpaaGreatDoorEvXW
import Derived.Test.YtogjnjnabikdpaaGreatDoorOptOW
set_option linter.unusedSimpArgs false
set_option linter.unusedVariables false
namespace Go.Proofs.YtogjnjnabikdpaaGreatDoor
open Go.Ev
theorem pr24:zo2 tbl 3000 148 [.str [110,101,103,10,110,101,103,10,114,101,116,97,10]] (.tup [FL ex24,.int .i64 0,.int .i64 0])=true:=by kernel_rfl
theorem kn24:FP tbl 379 [] (.bool true):=zrD (zwb pr24)
end Go.Proofs.YtogjnjnabikdpaaGreatDoor
