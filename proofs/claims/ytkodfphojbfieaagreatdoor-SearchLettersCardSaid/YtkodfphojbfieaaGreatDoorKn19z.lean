/- The examples that the statements of layer 19 end with hold: the texts are read by the kernel. -/
import Derived.Test.YtkodfphojbfieaaGreatDoorChk18z
import Derived.Test.YtkodfphojbfieaaGreatDoorEvXW
import Derived.Test.YtkodfphojbfieaaGreatDoorRunAW
import Derived.Test.YtkodfphojbfieaaGreatDoorSrcHW
set_option linter.unusedVariables false
set_option linter.unusedSimpArgs false
namespace Go.Ev
open Go Go.RowKit
theorem byte_arg {v : V} (h : ArgIs (.int .u8) v) : ∃ n : Nat, v = .int .u8 n ∧ n < 256 := by
  obtain ⟨n, rfl, hw⟩ := int_arg h
  have : 0 ≤ n ∧ n < 256 := by
    simp [Lit.wf, IntKind.min, IntKind.max, IntKind.signed, IntKind.bits] at hw
    omega
  exact ⟨n.toNat, by rw [Int.toNat_of_nonneg this.1], by omega⟩
end Go.Ev
namespace Go.Proofs.YtkodfphojbfieaaGreatDoor
open Go.Ev
theorem pr1 : isRunV tbl 3000 148 [.str [97, 100, 100, 32, 48, 120, 49, 10, 97, 100, 100, 32, 48, 120, 50, 10]] (.tup [FL ex1, .int .i64 0, .int .i64 0]) = true := by kernel_rfl
theorem pr5 : isRunV tbl 3000 148 [.str [115, 116, 32, 48, 120, 48, 10, 109, 101, 109, 32, 48, 120, 48, 10]] (.tup [FL ex5, .int .i64 0, .int .i64 0]) = true := by kernel_rfl
theorem kn19 : FP tbl 334 [] (.bool true) := knows19_ok (FP_runV pr1) (FP_runV pr5)
end Go.Proofs.YtkodfphojbfieaaGreatDoor
