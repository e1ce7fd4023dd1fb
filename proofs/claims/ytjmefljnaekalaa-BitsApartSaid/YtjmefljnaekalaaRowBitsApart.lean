import Derived.Test.YtjmefljnaekalaaRows
import Derived.Test.YtjmefljnaekalaaChk15
import Derived.Test.YtjmefljnaekalaaLaw15C
import Derived.Test.YtjmefljnaekalaaEvQ
import Derived.WalkKit
import Derived.ProofKit
import Derived.OpenShut
import Derived.ShutString
import Derived.ChangeOld
import Derived.Below
import Derived.SizedLaws
namespace Go.Proofs.Ytjmefljnaekalaa.bitsApart
open Go.ChangeShapes Go.WideShapes Go.ChangeAt Go.RowKit Go.Ev
open Go.ChangeMaps (open_string shut_string)
set_option linter.unusedVariables false
theorem own : ownKnob Try.prog.godebug = none := by kernel_rfl
theorem laidOut : laidOutB Try.prog = true := by kernel_rfl
def tys : List Ty := [.agg [.sl (.int .i64), .sl (.int .u32)], .agg [.sl (.int .i64), .sl (.int .u32)]]
theorem walk (cs : List V) (h : ArgsAre tys cs) : FP tbl 136 cs (.bool true) := by
  simp only [tys, ArgsAre] at h
  obtain ⟨b, _, rfl, hb, c, _, rfl, hc, rfl⟩ := h
  obtain ⟨fv, ft, rfl, _, _, _, hft⟩ := form_arg hb
  obtain ⟨gv, gt, rfl, _, _, _, hgt⟩ := form_arg hc
  exact BitsApart_ok hasBits hasRef15 hasLaw15 fv gv ft gt hft hgt
theorem tysOk : (tys.zip Try.f7.params.toList).all (fun x => tyIs Try.prog x.2 x.1) = true := by kernel_rfl
theorem readOk : Try.f7.params.toList.all (fun t => Try.prog.readableRec t && decide (t < Try.prog.types.size)) = true := by kernel_rfl
set_option maxRecDepth 100000 in
theorem lifted (os : Os) (started : os.Started) (H : Type) (enc : TypeId × Value → H) :
    ReturnsInHanded {} Try.checked os 7 .any (Rows.bitsApartSpec.pre6 enc Try.prog Try.f7 Rows.bitsApartRow.domain false) (Rows.bitsApartSpec.post enc Try.prog Try.f7 false true false false) := by
  refine returnsInHanded_of_change_sized (C := Try.checked) own started (by kernel_rfl) Try.func7
    (ChangeSpec.witness6 (enc := enc) (C := Try.checked) false ⟨#[], #[.agg #[.slice none 0 0, .slice none 0 0], .agg #[.slice none 0 0, .slice none 0 0]], []⟩ 8 (by kernel_rfl) (by kernel_rfl) (by kernel_rfl) (by kernel_rfl)) ?_
  intro W base args ds gs before hval0 hW hcnd hsz0 _
  have hval : ∀ (j : Nat) t v, Try.f7.params[j]? = some t → args[j]? = some v → Value.okWide Try.prog W .any base t v := hval0
  have hW' := hW
  obtain ⟨p, q, hA0, hV, rfl, hfz, hnd⟩ := hW
  have hA : DataW.TrodAll enc Try.prog W 0 (fun _ => true) true Try.f7.params.toList args.toList ds p := hA0
  obtain ⟨rfl, rfl⟩ := trodVars_none hV
  obtain ⟨cs, hcs, hes⟩ := open_args (fm := fm) (tys := tys) (zip_all tysOk) (by kernel_rfl) (fun j t v ht hv => hval j t v (by simpa using ht) (by simpa using hv)) hA
  refine (law_calls checked (walk cs hcs) hes).mono fun e W' ⟨he, bel⟩ => ?_
  subst he
  have hA1 := hA
  rw [Try.params7] at hA1
  obtain ⟨v0, vs0, d0, ds0, p0, q0, hargs, rfl, rfl, h0, r0⟩ := trodAll_cons hA1
  obtain ⟨v1, vs1, d1, ds1, p1, q1, rfl, rfl, rfl, h1, r1⟩ := trodAll_cons r0
  obtain ⟨rfl, rfl, rfl⟩ := trodAll_nil r1
  obtain ⟨ps', hS⟩ := shut_args laidOut readOk bel hA
  exact ⟨_, rfl, _, _, _, [], _, [], hW', trodAll_mk1 (shut_bool Try.underlying4 _), hS, rfl, bel.frame _, fun h => by cases h⟩
theorem over : Rows.bitsApartRow.holds Try.pinned (OpenSpec.ofChange Rows.bitsApartSpec) :=
  OpenClaim.holds_of_wide 7 Try.f7 rfl rfl rfl rfl rfl rfl rfl ⟨rfl, rfl, rfl, rfl, rfl⟩ rfl rfl rfl rfl rfl (by kernel_rfl) Try.func7 (by kernel_rfl)
    (of_decide_eq_true (by kernel_rfl)) (by unfold Func.isWrapper; first | (rw [if_pos (by decide +kernel)]; kernel_rfl) | (rw [if_neg (by decide +kernel)]; exact ⟨rfl, rfl⟩))
    (fun os started H enc _ => lifted os started H enc)
theorem proved : Rows.BitsApartSaid := over
#print axioms proved
end Go.Proofs.Ytjmefljnaekalaa.bitsApart
namespace Go.Proofs.Ytjmefljnaekalaa
/-- The row, under a short name, for the claim. -/
theorem bitsApart_holds : Rows.BitsApartSaid := bitsApart.proved
end Go.Proofs.Ytjmefljnaekalaa
