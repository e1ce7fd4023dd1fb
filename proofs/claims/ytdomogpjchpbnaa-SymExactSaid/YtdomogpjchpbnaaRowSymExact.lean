import Derived.Test.YtdomogpjchpbnaaRows
import Derived.WalkKit
import Derived.ProofKit
import Derived.OpenShut
import Derived.ShutString
import Derived.ChangeOld
import Derived.Below
import Derived.SizedLaws
import Derived.LaidMore
import Derived.Stop.Joined
import Derived.Test.YtdomogpjchpbnaaKn16
import Derived.Test.YtdomogpjchpbnaaSymUW
namespace Go.Proofs.Ytdomogpjchpbnaa.symExact
open Go.ChangeShapes Go.WideShapes Go.ChangeAt Go.RowKit Go.Ev
open Go.ChangeMaps (open_string shut_string)
set_option linter.unusedVariables false
theorem own : ownKnob Try.prog.godebug = none := by kernel_rfl
theorem laidOut : laidOutB Try.prog = true := by kernel_rfl
def tys : List Ty := [.sl (.agg [.int .i64, .int .i64, .int .i64, .int .i64, .int .i64, .int .u32])]
theorem walk (cs : List V) (h : ArgsAre tys cs) : FP tbl 290 cs (.bool true) := by
  simp only [tys, ArgsAre] at h
  obtain ⟨a, _, rfl, ha, rfl⟩ := h
  obtain ⟨l, rfl, hl, hlc⟩ := md_arg ha
  exact SymExact_ok kn16 l hlc (Nat.le_trans hl (by decide))
theorem tysOk : (tys.zip Try.f4.params.toList).all (fun x => tyIs Try.prog x.2 x.1) = true := by kernel_rfl
theorem readOk : Try.f4.params.toList.all (fun t => Try.prog.readableRec t && decide (t < Try.prog.types.size)) = true := by kernel_rfl
set_option maxRecDepth 100000 in
theorem lifted (os : Os) (started : os.Started) (H : Type) (enc : TypeId × Value → H) :
    ReturnsInHanded {} Try.checked os 4 .any (Rows.symExactSpec.pre6 enc Try.prog Try.f4 Rows.symExactRow.domain false) (Rows.symExactSpec.post enc Try.prog Try.f4 false true false false) := by
  refine returnsInHanded_of_change_sized (C := Try.checked) own started (by kernel_rfl) Try.func4
    (ChangeSpec.witness6 (enc := enc) (C := Try.checked) false ⟨#[], #[.slice none 0 0], []⟩ 8 (by kernel_rfl) (by kernel_rfl) (by kernel_rfl) (by kernel_rfl)) ?_
  intro W base args ds gs before hval0 hW hcnd hsz0 _
  have hval : ∀ (j : Nat) t v, Try.f4.params[j]? = some t → args[j]? = some v → Value.okWide Try.prog W .any base t v := hval0
  have hW' := hW
  obtain ⟨p, q, hA0, hV, rfl, hfz, hnd⟩ := hW
  have hA : DataW.TrodAll enc Try.prog W 0 (fun _ => true) true Try.f4.params.toList args.toList ds p := hA0
  obtain ⟨rfl, rfl⟩ := trodVars_none hV
  obtain ⟨cs, hcs, hes⟩ := open_args (fm := fm) (tys := tys) (zip_all tysOk) (by kernel_rfl) (fun j t v ht hv => hval j t v (by simpa using ht) (by simpa using hv)) hA
  have hG : GOk (M0 fm) W := fun g c h => by simp [M0, fm, fmG] at h
  refine (law_calls hG checked (walk cs hcs) hes).mono fun e W' ⟨he, bel⟩ => ?_
  subst he
  have hA1 := hA
  rw [Try.params4] at hA1
  obtain ⟨v0, vs0, d0, ds0, p0, q0, hargs, rfl, rfl, h0, r0⟩ := trodAll_cons hA1
  obtain ⟨rfl, rfl, rfl⟩ := trodAll_nil r0
  obtain ⟨ps', hS⟩ := shut_args laidOut readOk bel hA
  exact ⟨_, rfl, _, _, _, [], _, [], hW', trodAll_mk1 (shut_bool Try.underlying4 _), hS, rfl, bel.frame _, fun h => by cases h⟩
theorem over : Rows.symExactRow.holds Try.pinned (OpenSpec.ofChange Rows.symExactSpec) :=
  OpenClaim.holds_of_wide 4 Try.f4 rfl rfl rfl rfl rfl rfl rfl ⟨rfl, rfl, rfl, rfl, rfl⟩ rfl rfl rfl rfl rfl (by kernel_rfl) Try.func4 (by kernel_rfl)
    (of_decide_eq_true (by kernel_rfl)) (by unfold Func.isWrapper; first | (rw [if_pos (by decide +kernel)]; kernel_rfl) | (rw [if_neg (by decide +kernel)]; exact ⟨rfl, rfl⟩))
    (fun os started H enc _ => lifted os started H enc)
theorem proved : Rows.SymExactSaid := over
#print axioms proved
end Go.Proofs.Ytdomogpjchpbnaa.symExact
namespace Go.Proofs.Ytdomogpjchpbnaa
/-- The row, under a short name, for the claim. -/
theorem symExact_holds : Rows.SymExactSaid := symExact.proved
end Go.Proofs.Ytdomogpjchpbnaa
