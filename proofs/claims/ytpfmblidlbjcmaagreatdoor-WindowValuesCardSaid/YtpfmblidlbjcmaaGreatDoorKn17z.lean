/- The examples that the statements of layer 17 end with hold: computed. -/
import Derived.Test.YtpfmblidlbjcmaaGreatDoorChk17z
import Derived.Test.YtpfmblidlbjcmaaGreatDoorEvX
namespace Go.Proofs.YtpfmblidlbjcmaaGreatDoor
open Go.Ev
theorem run17 : isBoolRun tbl 12000 299 [] true = true := by kernel_rfl
theorem kn17 : FP tbl 299 [] (.bool true) := FP_run run17
end Go.Proofs.YtpfmblidlbjcmaaGreatDoor
