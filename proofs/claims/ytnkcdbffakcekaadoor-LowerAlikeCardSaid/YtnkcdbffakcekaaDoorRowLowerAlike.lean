/- THE LAW LowerAlike, PROVED: for every input it returns true, and its arguments read as before; the variable that it names holds what the program's text lays. -/
import Derived.Test.YtnkcdbffakcekaaDoorRows
import Derived.Test.YtnkcdbffakcekaaDoorCards
import Derived.Test.YtnkcdbffakcekaaDoorTie
import Derived.WalkKit
import Derived.ProofKit
import Derived.OpenShut
import Derived.ShutString
import Derived.ChangeOld
import Derived.Below
import Derived.SizedLaws
import Derived.SevenTiedAt
import Derived.Test.YtnkcdbffakcekaaDoorGlChk13l
import Derived.Test.YtnkcdbffakcekaaDoorKn13l
import Derived.Test.YtnkcdbffakcekaaDoorArgPW
set_option linter.unusedVariables false
set_option linter.unusedSimpArgs false
namespace Go.Proofs.YtnkcdbffakcekaaDoor.lowerAlike
open Go.ChangeShapes Go.WideShapes Go.ChangeAt Go.RowKit Go.Ev
open Go.ChangeMaps (open_string shut_string)
set_option linter.unusedVariables false
def tys : List Ty := [.agg [.sl (.agg [.int .u32, .int .u32, .sl (.agg [.int .i64, .int .i64, .int .u64, .int .u64]), .int .u32]), .int .u32]]
theorem walk (cs : List V) (h : ArgsAre tys cs) : FP tbl 446 cs (.bool true) := by
  simp only [tys, ArgsAre] at h
  obtain ⟨a, _, rfl, ha, rfl⟩ := h
  obtain ⟨p, rfl, hp⟩ := pol_arg ha
  exact LowerAlike_ok kn13l p hp
theorem tysOk : (tys.zip Tryd.f5.params.toList).all (fun x => tyIs Tryd.prog x.2 x.1) = true := by kernel_rfl
theorem readOk : Tryd.f5.params.toList.all (fun t => Tryd.prog.readableRec t && decide (t < Tryd.prog.types.size)) = true := by kernel_rfl
set_option maxRecDepth 100000 in
theorem lifted (os : Os) (started : os.Started) (H : Type) (enc : TypeId × Value → H) :
    ReturnsInHanded {} Tryd.checked os 5 .any (fun w args => (Rows.lowerAlikeSpec.pre enc Tryd.prog Tryd.f5 [] false w args ∧ laidMetH Tryd.prog laidL w) ∧ sizedMet enc Tryd.prog Tryd.f5 (OpenSpec.ofChange Rows.lowerAlikeSpec) false w args)
      (Rows.lowerAlikeSpec.post enc Tryd.prog Tryd.f5 false true false false) := by
  refine returnsInHanded_of_change_and (C := Tryd.checked) (X := fun w _ => laidMetH Tryd.prog laidL w) (fun _ _ _ hh h => h.of_heap hh) own started (by kernel_rfl) Tryd.func5
    (ChangeSpec.witness_shaped (enc := enc) (C := Tryd.checked) (os := os) (X := fun w _ => laidMetH Tryd.prog laidL w) false (World.doorLaid Tryd.prog 400 os) #[.agg #[.slice none 0 0, .int .u32 0]] 8 rfl (World.shaped_of_RefB (by kernel_rfl) (by kernel_rfl)) (by kernel_rfl) (by kernel_rfl) (by kernel_rfl) (door_met os _)) ?_
  intro W base args ds gs before hval0 hW _ _ hL _
  have hval : ∀ (j : Nat) t v, Tryd.f5.params[j]? = some t → args[j]? = some v → Value.okWide Tryd.prog W .any base t v := hval0
  have hW' := hW
  obtain ⟨p, q, hA0, hV, rfl, hfz, hnd⟩ := hW
  have hA : DataW.TrodAll enc Tryd.prog W 0 (fun _ => true) true Tryd.f5.params.toList args.toList ds p := hA0
  obtain ⟨rfl, rfl⟩ := trodVars_none hV
  obtain ⟨cs, hcs, hes⟩ := open_args (fm := fm) (tys := tys) (zip_all tysOk) (by kernel_rfl) (fun j t v ht hv => hval j t v (by simpa using ht) (by simpa using hv)) hA
  have hG : GOk (M0 fm) W := gok_one (ty := .arr 39 (.agg [.int .i64, .str, .bool, .bool])) hL (by kernel_rfl) gSh tSh tySh canSh pureSh fmSh
  refine (law_callsN hG checkedA (walk cs hcs) hes).mono fun e W' ⟨he, bel⟩ => ?_
  subst he
  have hA1 := hA
  rw [Tryd.params5] at hA1
  obtain ⟨v0, vs0, d0, ds0, p0, q0, hargs, rfl, rfl, h0, r0⟩ := trodAll_cons hA1
  obtain ⟨rfl, rfl, rfl⟩ := trodAll_nil r0
  obtain ⟨ps', hS⟩ := shut_args laidOut readOk bel hA
  exact ⟨_, rfl, _, _, _, [], _, [], hW', trodAll_mk1 (shut_bool Tryd.underlying4 _), hS, rfl, bel.frame _, fun h => by cases h⟩
theorem over : Rows.lowerAlikeRow.holds Tryd.pinned (OpenSpec.ofChange Rows.lowerAlikeSpec) :=
  OpenClaim.holds_of_wide 5 Tryd.f5 rfl rfl rfl rfl rfl rfl rfl ⟨rfl, rfl, rfl, rfl, rfl⟩ rfl rfl rfl rfl rfl (by kernel_rfl) Tryd.func5 (by kernel_rfl)
    (of_decide_eq_true (by kernel_rfl)) (by unfold Func.isWrapper; first | (rw [if_pos (by decide +kernel)]; kernel_rfl) | (rw [if_neg (by decide +kernel)]; exact ⟨rfl, rfl⟩))
    (fun os started H enc _ => lifted os started H enc)
theorem card : Rows.LowerAlikeCardSaid :=
  Claim7.holds_tied_plain_at .later [] [.data] true (true, "a194d20b6e2ccac4405c0237b337f0ef22d3aaf32767b87d30a92e99afcf7d6b") false
    over (fun _ h => by cases h) (by kernel_rfl) (fun _ h => by cases h) lowerAlike_row_tie rfl ⟨rfl, rfl⟩ (by kernel_rfl) rfl
    (fun f fn hf hfn => by
      obtain rfl : f = 5 := Option.some.inj ((show Tryd.prog.funcNamed "hurdle/hurdlelaw13.LowerAlike" = some 5 by kernel_rfl).symm.trans hf) |>.symm
      obtain rfl : fn = Tryd.f5 := (Option.some.inj (Tryd.func5.symm.trans hfn)).symm
      exact ⟨by kernel_rfl, fun j t ht => by
        have hm : t ∈ Tryd.f5.params.toList := by simpa using Array.mem_of_getElem? ht
        have hall : (Tryd.f5.params.toList.all fun u => !Tryd.prog.wantsStandIn u) = true := by kernel_rfl
        exact (show Tryd.prog.wantsStandIn t = false by simpa using List.all_eq_true.1 hall t hm)⟩)
    (by kernel_rfl)
#print axioms card
end Go.Proofs.YtnkcdbffakcekaaDoor.lowerAlike
namespace Go.Proofs.YtnkcdbffakcekaaDoor
theorem lowerAlike_holds : Rows.LowerAlikeCardSaid := lowerAlike.card
end Go.Proofs.YtnkcdbffakcekaaDoor
