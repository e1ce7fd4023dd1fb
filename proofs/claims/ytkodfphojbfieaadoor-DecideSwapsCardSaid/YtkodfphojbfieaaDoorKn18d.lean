/- The examples that the statements of layer 18 end with hold: the texts are read by the kernel. -/
import Derived.Test.YtkodfphojbfieaaDoorChk18d
import Derived.Test.YtkodfphojbfieaaDoorEvXW
import Derived.Test.YtkodfphojbfieaaDoorDecEW
set_option linter.unusedVariables false
set_option linter.unusedSimpArgs false
namespace Go.Proofs.YtkodfphojbfieaaDoor
open Go.Ev
theorem pr1 : isRunV tbl 3000 148 [.str [97, 100, 100, 32, 48, 120, 49, 10, 97, 100, 100, 32, 48, 120, 50, 10]] (.tup [FL ex1, .int .i64 0, .int .i64 0]) = true := by kernel_rfl
theorem pr2 : isRunV tbl 3000 148 [.str [97, 100, 100, 32, 48, 120, 51, 10]] (.tup [FL ex2, .int .i64 0, .int .i64 0]) = true := by kernel_rfl
theorem pr3 : isRunV tbl 3000 148 [.str [97, 110, 100, 32, 48, 120, 102, 102, 10]] (.tup [FL ex3, .int .i64 0, .int .i64 0]) = true := by kernel_rfl
theorem pr4 : isRunV tbl 3000 148 [.str [100, 105, 118, 120, 10]] (.tup [FL ex4, .int .i64 0, .int .i64 0]) = true := by kernel_rfl
theorem kn18 : FP tbl 319 [] (.bool true) := knows18_ok (FP_runV pr1) (FP_runV pr2) (FP_runV pr3) (FP_runV pr4)
end Go.Proofs.YtkodfphojbfieaaDoor
