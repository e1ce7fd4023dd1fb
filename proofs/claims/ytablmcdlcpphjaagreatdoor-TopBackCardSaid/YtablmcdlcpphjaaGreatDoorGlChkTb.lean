/- What all rows of the seat share: the variable that they name holds what the program's text lays. -/
import Derived.Test.YtablmcdlcpphjaaGreatDoorRows
import Derived.Test.YtablmcdlcpphjaaGreatDoorCards
import Derived.Test.YtablmcdlcpphjaaGreatDoorTie
import Derived.WalkKit
import Derived.ProofKit
import Derived.LaidMore
import Derived.Stop.Joined
import Derived.Test.YtablmcdlcpphjaaGreatDoorChkTb
import Derived.Test.YtablmcdlcpphjaaGreatDoorEvQW
set_option linter.unusedVariables false
set_option linter.unusedSimpArgs false
namespace Go.Proofs.YtablmcdlcpphjaaGreatDoor
open Go.ChangeShapes Go.WideShapes Go.ChangeAt Go.RowKit Go.Ev
set_option linter.unusedVariables false
theorem own : ownKnob Tryz.prog.godebug = none := by kernel_rfl
theorem laidOut : laidOutB Tryz.prog = true := by kernel_rfl
def laidL : List (String × DataW Unit) := [("hurdle/ins.shapes", Rows.laid_hurdle_ins_shapes)]
theorem door_met (os : Os) (args : Array Value) : laidMetH Tryz.prog laidL ((World.doorLaid Tryz.prog 400 os).forCall (fun _ _ => 0) ⟨#[], args, []⟩).memory :=
  laidMetH_of_parts3 (fuel := 8) (laidMet_of_run' 8 (by kernel_rfl) (by kernel_rfl)) (by kernel_rfl) (by kernel_rfl)
theorem gSh : Tryz.prog.globalNamed "hurdle/ins.shapes" = some 0 := by kernel_rfl
theorem tSh : (Tryz.prog.globals[0]?).map (·.type) = some 129 := by kernel_rfl
theorem tySh : tyIs Tryz.prog 129 (.arr 39 (.agg [.int .i64, .str, .bool, .bool])) = true := by kernel_rfl
theorem canSh : canD 2 (Rows.laid_hurdle_ins_shapes : DataW Unit) = some g_ins_shapes := by kernel_rfl
theorem fmSh : ∀ g c, fm.gl g = some c → g = 0 ∧ c = g_ins_shapes := by
  intro g c h
  simp only [fm, fmG] at h
  split at h
  · cases h; exact ⟨rfl, rfl⟩
  · cases h
theorem pureSh : ∀ c ∈ g_ins_shapes, c.pure = true := by
  have h : g_ins_shapes.all V.pure = true := by kernel_rfl
  exact List.all_eq_true.1 h
theorem shaped (os : Os) : (World.doorLaid Tryz.prog 400 os).os = os := rfl
end Go.Proofs.YtablmcdlcpphjaaGreatDoor
