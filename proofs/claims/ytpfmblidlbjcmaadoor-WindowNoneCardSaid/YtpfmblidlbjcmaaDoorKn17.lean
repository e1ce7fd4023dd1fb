/- The examples that the statements of layer 17 end with hold: computed. -/
import Derived.Test.YtpfmblidlbjcmaaDoorChk17
import Derived.Test.YtpfmblidlbjcmaaDoorEvX
namespace Go.Proofs.YtpfmblidlbjcmaaDoor
open Go.Ev
theorem run17 : isBoolRun tbl 12000 299 [] true = true := by kernel_rfl
theorem kn17 : FP tbl 299 [] (.bool true) := FP_run run17
end Go.Proofs.YtpfmblidlbjcmaaDoor
