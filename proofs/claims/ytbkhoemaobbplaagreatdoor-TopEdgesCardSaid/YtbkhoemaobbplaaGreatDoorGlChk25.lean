/- What all rows of the seat share: the variable that they name holds what the program's text lays. -/
import Derived.Test.YtbkhoemaobbplaaGreatDoorRows
import Derived.Test.YtbkhoemaobbplaaGreatDoorCards
import Derived.Test.YtbkhoemaobbplaaGreatDoorTie
import Derived.WalkKit
import Derived.ProofKit
import Derived.LaidMore
import Derived.Stop.Joined
import Derived.Test.YtbkhoemaobbplaaGreatDoorChk25
import Derived.Test.YtbkhoemaobbplaaGreatDoorEvQW
set_option linter.unusedSimpArgs false
set_option linter.unusedVariables false
namespace Go.Proofs.YtbkhoemaobbplaaGreatDoor
open Go.ChangeShapes Go.WideShapes Go.ChangeAt Go.RowKit Go.Ev
theorem own:ownKnob Tryz.prog.godebug=none:=by kernel_rfl
theorem zGt:laidOutB Tryz.prog=true:=by kernel_rfl
def Td : List (String × DataW Unit) := [("hurdle/ins.shapes", Rows.laid_hurdle_ins_shapes)]
theorem zDQ(os:Os)(args:Array Value):laidMetH Tryz.prog Td ((World.doorLaid Tryz.prog 400 os).forCall (fun _ _=>0) ⟨#[],args,[]⟩).memory :=
  laidMetH_of_parts3 (fuel:=8) (laidMet_of_run' 8 (by kernel_rfl) (by kernel_rfl)) (by kernel_rfl) (by kernel_rfl)
theorem gSh : Tryz.prog.globalNamed "hurdle/ins.shapes" = some 0 := by kernel_rfl
theorem tSh:(Tryz.prog.globals[0]?).map (·.type)=some 229:=by kernel_rfl
theorem ZA:fV Tryz.prog 229 (.arr 39 (.agg [.int .i64,.str,.bool,.bool]))=true:=by kernel_rfl
theorem zNl:oF 2 (Rows.laid_hurdle_ins_shapes:DataW Unit)=some yj:=by kernel_rfl
theorem ZB:∀ g c,fm.gl g=some c->g=0/\c=yj:=by
  intro g c h;simp only[fm,fmG] at h;split at h
  · cases h;exact⟨rfl,rfl⟩
  · cases h
theorem zIi:∀ c∈yj,c.pure=true:=by
  have h:yj.all V.pure=true:=by kernel_rfl
  exact List.all_eq_true.1 h
theorem shaped(os:Os):(World.doorLaid Tryz.prog 400 os).os=os:=rfl
end Go.Proofs.YtbkhoemaobbplaaGreatDoor
