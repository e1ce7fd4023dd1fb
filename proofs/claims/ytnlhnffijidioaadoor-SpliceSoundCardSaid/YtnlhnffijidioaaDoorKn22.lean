/- The examples that the statements of layer 22 end with hold: computed. -/
import Derived.Test.YtnlhnffijidioaaDoorChk22
import Derived.Test.YtnlhnffijidioaaDoorArgI
namespace Go.Ev
open Go Go.RowKit
theorem u8_arg {v : V} (h : ArgIs (.int .u8) v) : ∃ n : Nat, v = .int .u8 n ∧ n < 256 := by
  obtain ⟨n, rfl, hw⟩ := int_arg h
  have : 0 ≤ n ∧ n < 256 := by
    simp [Lit.wf, IntKind.min, IntKind.max, IntKind.signed, IntKind.bits] at hw
    omega
  exact ⟨n.toNat, by rw [Int.toNat_of_nonneg this.1], by omega⟩
end Go.Ev
namespace Go.Proofs.YtnlhnffijidioaaDoor
open Go.Ev
theorem run22 : isBoolRun tbl 3000 224 [] true = true := by kernel_rfl
theorem kn22 : FP tbl 224 [] (.bool true) := FP_run run22
end Go.Proofs.YtnlhnffijidioaaDoor
