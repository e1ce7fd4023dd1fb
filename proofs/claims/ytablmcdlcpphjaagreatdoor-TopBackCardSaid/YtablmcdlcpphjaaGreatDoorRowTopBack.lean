/- THE LAW TopBack, PROVED: for every input it returns true, and its arguments read as before; the variable that it names holds what the program's text lays. -/
import Derived.Test.YtablmcdlcpphjaaGreatDoorRows
import Derived.Test.YtablmcdlcpphjaaGreatDoorCards
import Derived.Test.YtablmcdlcpphjaaGreatDoorTie
import Derived.WalkKit
import Derived.ProofKit
import Derived.OpenShut
import Derived.ShutString
import Derived.ChangeOld
import Derived.Below
import Derived.SizedLaws
import Derived.SevenTiedAt
import Derived.Test.YtablmcdlcpphjaaGreatDoorGlChkTb
import Derived.Test.YtablmcdlcpphjaaGreatDoorNatTb
import Derived.Test.YtablmcdlcpphjaaGreatDoorKnTb5
import Derived.Test.YtablmcdlcpphjaaGreatDoorBitsFW
import Derived.Test.YtablmcdlcpphjaaGreatDoorSymUW
set_option linter.unusedVariables false
set_option linter.unusedSimpArgs false
namespace Go.Proofs.YtablmcdlcpphjaaGreatDoor.topBack
open Go.ChangeShapes Go.WideShapes Go.ChangeAt Go.RowKit Go.Ev
open Go.ChangeMaps (open_string shut_string)
set_option linter.unusedVariables false
def tys : List Ty := [.agg [.sl (.agg [.int .u32, .int .u32, .sl (.agg [.int .i64, .int .i64, .int .u64, .int .u64]), .int .u32]), .int .u32], .sl (.agg [.int .i64, .int .i64, .int .i64, .int .u32])]
theorem walk (cs : List V) (h : ArgsAre tys cs) : FP tbl 485 cs (.bool true) := by
  simp only [tys, ArgsAre] at h
  obtain ⟨a, _, rfl, ha, b, _, rfl, hb, rfl⟩ := h
  obtain ⟨p, rfl, hp⟩ := pol_arg ha
  obtain ⟨f, rfl, hf, hk⟩ := flt_arg hb
  exact TopBack_ok kworks p hp f hf (fun x hx => (hk x hx).2)
theorem tysOk : (tys.zip Tryz.f3.params.toList).all (fun x => tyIs Tryz.prog x.2 x.1) = true := by kernel_rfl
theorem readOk : Tryz.f3.params.toList.all (fun t => Tryz.prog.readableRec t && decide (t < Tryz.prog.types.size)) = true := by kernel_rfl
set_option maxRecDepth 100000 in
theorem lifted (os : Os) (started : os.Started) (H : Type) (enc : TypeId × Value → H) :
    ReturnsInHanded {} Tryz.checked os 3 .any (fun w args => (Rows.topBackSpec.pre enc Tryz.prog Tryz.f3 [] false w args ∧ laidMetH Tryz.prog laidL w) ∧ sizedMet enc Tryz.prog Tryz.f3 (OpenSpec.ofChange Rows.topBackSpec) false w args)
      (Rows.topBackSpec.post enc Tryz.prog Tryz.f3 false true false false) := by
  refine returnsInHanded_of_change_and (C := Tryz.checked) (X := fun w _ => laidMetH Tryz.prog laidL w) (fun _ _ _ hh h => h.of_heap hh) own started (by kernel_rfl) Tryz.func3
    (ChangeSpec.witness_shaped (enc := enc) (C := Tryz.checked) (os := os) (X := fun w _ => laidMetH Tryz.prog laidL w) false (World.doorLaid Tryz.prog 400 os) #[.agg #[.slice none 0 0, .int .u32 0], .slice none 0 0] 8 rfl (World.shaped_of_RefB (by kernel_rfl) (by kernel_rfl)) (by kernel_rfl) (by kernel_rfl) (by kernel_rfl) (door_met os _)) ?_
  intro W base args ds gs before hval0 hW _ _ hL _
  have hval : ∀ (j : Nat) t v, Tryz.f3.params[j]? = some t → args[j]? = some v → Value.okWide Tryz.prog W .any base t v := hval0
  have hW' := hW
  obtain ⟨p, q, hA0, hV, rfl, hfz, hnd⟩ := hW
  have hA : DataW.TrodAll enc Tryz.prog W 0 (fun _ => true) true Tryz.f3.params.toList args.toList ds p := hA0
  obtain ⟨rfl, rfl⟩ := trodVars_none hV
  obtain ⟨cs, hcs, hes⟩ := open_args (fm := fm) (tys := tys) (zip_all tysOk) (by kernel_rfl) (fun j t v ht hv => hval j t v (by simpa using ht) (by simpa using hv)) hA
  have hG : GOk (M0 fm) W := gok_one (ty := .arr 39 (.agg [.int .i64, .str, .bool, .bool])) hL (by kernel_rfl) gSh tSh tySh canSh pureSh fmSh
  refine (law_callsN hG checkedA (walk cs hcs) hes).mono fun e W' ⟨he, bel⟩ => ?_
  subst he
  have hA1 := hA
  rw [Tryz.params3] at hA1
  obtain ⟨v0, vs0, d0, ds0, p0, q0, hargs, rfl, rfl, h0, r0⟩ := trodAll_cons hA1
  obtain ⟨v1, vs1, d1, ds1, p1, q1, rfl, rfl, rfl, h1, r1⟩ := trodAll_cons r0
  obtain ⟨rfl, rfl, rfl⟩ := trodAll_nil r1
  obtain ⟨ps', hS⟩ := shut_args laidOut readOk bel hA
  exact ⟨_, rfl, _, _, _, [], _, [], hW', trodAll_mk1 (shut_bool Tryz.underlying4 _), hS, rfl, bel.frame _, fun h => by cases h⟩
theorem over : Rows.topBackRow.holds Tryz.pinned (OpenSpec.ofChange Rows.topBackSpec) :=
  OpenClaim.holds_of_wide 3 Tryz.f3 rfl rfl rfl rfl rfl rfl rfl ⟨rfl, rfl, rfl, rfl, rfl⟩ rfl rfl rfl rfl rfl (by kernel_rfl) Tryz.func3 (by kernel_rfl)
    (of_decide_eq_true (by kernel_rfl)) (by unfold Func.isWrapper; first | (rw [if_pos (by decide +kernel)]; kernel_rfl) | (rw [if_neg (by decide +kernel)]; exact ⟨rfl, rfl⟩))
    (fun os started H enc _ => lifted os started H enc)
theorem card : Rows.TopBackCardSaid :=
  Claim7.holds_tied_plain_at .later [] [.data] true (true, "ae8d439c5a44fd70bf355169388b80c5f7e96e3a0011789eab912ea3fba901d0") false
    over (fun _ h => by cases h) (by kernel_rfl) (fun _ h => by cases h) topBack_row_tie rfl ⟨rfl, rfl⟩ (by kernel_rfl) rfl
    (fun f fn hf hfn => by
      obtain rfl : f = 3 := Option.some.inj ((show Tryz.prog.funcNamed "hurdle/hurdletop.TopBack" = some 3 by kernel_rfl).symm.trans hf) |>.symm
      obtain rfl : fn = Tryz.f3 := (Option.some.inj (Tryz.func3.symm.trans hfn)).symm
      exact ⟨by kernel_rfl, fun j t ht => by
        have hm : t ∈ Tryz.f3.params.toList := by simpa using Array.mem_of_getElem? ht
        have hall : (Tryz.f3.params.toList.all fun u => !Tryz.prog.wantsStandIn u) = true := by kernel_rfl
        exact (show Tryz.prog.wantsStandIn t = false by simpa using List.all_eq_true.1 hall t hm)⟩)
    (by kernel_rfl)
#print axioms card
end Go.Proofs.YtablmcdlcpphjaaGreatDoor.topBack
namespace Go.Proofs.YtablmcdlcpphjaaGreatDoor
theorem topBack_holds : Rows.TopBackCardSaid := topBack.card
end Go.Proofs.YtablmcdlcpphjaaGreatDoor
