/- THE LAW CompileSteps, PROVED: for every input it returns true, and its arguments read as before; the variable that it names holds what the program's text lays. -/
import Derived.Test.YtbkhoemaobbplaaGreatDoorRows
import Derived.Test.YtbkhoemaobbplaaGreatDoorCards
import Derived.Test.YtbkhoemaobbplaaGreatDoorTie
import Derived.WalkKit
import Derived.ProofKit
import Derived.OpenShut
import Derived.ShutString
import Derived.ChangeOld
import Derived.Below
import Derived.SizedLaws
import Derived.SevenTiedAt
import Derived.Test.YtbkhoemaobbplaaGreatDoorGlChk25
import Derived.Test.YtbkhoemaobbplaaGreatDoorNat25
import Derived.Test.YtbkhoemaobbplaaGreatDoorKn25
import Derived.Test.YtbkhoemaobbplaaGreatDoorSrcAW
import Derived.Test.YtbkhoemaobbplaaGreatDoorParSW
set_option linter.unusedSimpArgs false
set_option linter.unusedVariables false
open Option renaming some→aaa
namespace Go.Proofs.YtbkhoemaobbplaaGreatDoor.compileSteps
open Go.ChangeShapes Go.WideShapes Go.ChangeAt Go.RowKit Go.Ev
open Go.ChangeMaps (open_string shut_string)
def tys:List Ty:=[.str,.sl (.int .u8),.agg [.int .i64,.int .i64,.int .i64]]
theorem walk(cs:List V)(h:IN tys cs):FP dN 507 cs (.bool true):=by simp only[tys,IN] at h;obtain⟨a,_,rfl,ha,b,_,rfl,hb,c,_,rfl,hc,rfl⟩:=h;obtain⟨S,rfl⟩:=zCW ha;obtain⟨t,rfl,ht⟩:=zAS hb;obtain⟨x,y,z,rfl⟩:=zCV hc;exact zpR Wq S t x y z ht
theorem Ny:(tys.zip Tryz.f5.params.toList).all (fun x=>eW Tryz.prog x.2 x.1)=true:=by kernel_rfl
theorem Hk:Tryz.f5.params.toList.all (fun t=>Tryz.prog.readableRec t&&decide (t<Tryz.prog.types.size))=true:=by kernel_rfl
set_option maxRecDepth 100000 in
theorem lifted(os:Os)(started:os.Started)(H:Type)(enc:TypeId×Value->H) :
    ReturnsInHanded {} Tryz.checked os 5 .any (fun w args=>(Rows.compileStepsSpec.pre enc Tryz.prog Tryz.f5 [] false w args/\laidMetH Tryz.prog PG w)/\sizedMet enc Tryz.prog Tryz.f5 (OpenSpec.ofChange Rows.compileStepsSpec) false w args)
      (Rows.compileStepsSpec.post enc Tryz.prog Tryz.f5 false true false false):=by
  refine returnsInHanded_of_change_and (C:=Tryz.checked) (X:=fun w _=>laidMetH Tryz.prog PG w) (fun _ _ _ hh h=>h.of_heap hh) own started (by kernel_rfl) Tryz.func5
    (ChangeSpec.witness_shaped (enc:=enc) (C:=Tryz.checked) (os:=os) (X:=fun w _=>laidMetH Tryz.prog PG w) false (World.doorLaid Tryz.prog 400 os) #[.string ⟨#[]⟩,.slice none 0 0,.agg #[.int .i64 0,.int .i64 0,.int .i64 0]] 8 rfl (World.shaped_of_RefB (by kernel_rfl) (by kernel_rfl)) (by kernel_rfl) (by kernel_rfl) (by kernel_rfl) (zzN os _)) ?_
  intro W base args ds gs before Nz hW _ _ hL _;have p_:∀(j:Nat) t v,Tryz.f5.params[j]?=some t->args[j]?=some v->Value.okWide Tryz.prog W .any base t v:=Nz;have hW':=hW;obtain⟨p,q,u4,hV,rfl,X3,mV⟩:=hW;have hA:DataW.TrodAll enc Tryz.prog W 0 (fun _=>true) true Tryz.f5.params.toList args.toList ds p:=u4;obtain⟨rfl,rfl⟩:=trodVars_none hV;obtain⟨cs,dR,gH⟩:=zre (fm:=fm) (tys:=tys) (zB3 Ny) (by kernel_rfl) (fun j t v ht hv=>p_ j t v (by simpa using ht) (by simpa using hv)) hA
  have hG:AJ (M0 fm) W:=zB4 (ty:=.arr 39 (.agg [.int .i64,.str,.bool,.bool])) hL (by kernel_rfl) gSh tSh Vl zIc zDQ Vm
  refine(zwj hG zAf (walk cs dR) gH).mono fun e W' ⟨he,bel⟩=>?_
  subst he;have Dq:=hA;rw[Tryz.params5] at Dq;obtain⟨v0,vs0,d0,ds0,p0,q0,dQ,rfl,rfl,h0,r0⟩:=trodAll_cons Dq;obtain⟨v1,vs1,d1,ds1,p1,q1,rfl,rfl,rfl,h1,r1⟩:=trodAll_cons r0;obtain⟨v2,vs2,d2,ds2,p2,q2,rfl,rfl,rfl,h2,r2⟩:=trodAll_cons r1;obtain⟨rfl,rfl,rfl⟩:=trodAll_nil r2;obtain⟨uF,hS⟩:=zrf zB7 Hk bel hA;exact⟨_,rfl,_,_,_,[],_,[],hW',trodAll_mk1 (shut_bool Tryz.underlying4 _),hS,rfl,bel.frame _,fun h=>by cases h⟩
theorem over:Rows.compileStepsRow.holds Tryz.pinned (OpenSpec.ofChange Rows.compileStepsSpec) :=
  OpenClaim.holds_of_wide 5 Tryz.f5 rfl rfl rfl rfl rfl rfl rfl ⟨rfl,rfl,rfl,rfl,rfl⟩ rfl rfl rfl rfl rfl (by kernel_rfl) Tryz.func5 (by kernel_rfl)
    (of_decide_eq_true (by kernel_rfl)) (by unfold Func.isWrapper;first|(rw[if_pos (by decide +kernel)];kernel_rfl)|(rw[if_neg (by decide +kernel)];exact⟨rfl,rfl⟩))
    (fun os started H enc _=>lifted os started H enc)
theorem card:Rows.CompileStepsCardSaid :=
  Claim7.holds_tied_plain_at .later [] [.data] true (true, "36d02ba4ed8ef80a3956fe1fcbd8c9a473cbb3b3f24371302dce67e93e7aba0b") false
    over (fun _ h=>by cases h) (by kernel_rfl) (fun _ h=>by cases h) compileSteps_row_tie rfl ⟨rfl,rfl⟩ (by kernel_rfl) rfl
    (fun f fn hf nV=>by
      obtain rfl : f = 5 := aaa.inj ((show Tryz.prog.funcNamed "hurdle/hurdlelaw25.CompileSteps" = some 5 by kernel_rfl).symm.trans hf) |>.symm
      obtain rfl:fn=Tryz.f5:=(aaa.inj (Tryz.func5.symm.trans nV)).symm
      exact⟨by kernel_rfl,fun j t ht=>by
        have hm:t∈Tryz.f5.params.toList:=by simpa using Array.mem_of_getElem? ht
        have aV:(Tryz.f5.params.toList.all fun u=>!Tryz.prog.wantsStandIn u)=true:=by kernel_rfl
        exact(show Tryz.prog.wantsStandIn t=false by simpa using List.all_eq_true.1 aV t hm)⟩)
    (by kernel_rfl)
#print axioms card
end Go.Proofs.YtbkhoemaobbplaaGreatDoor.compileSteps
namespace Go.Proofs.YtbkhoemaobbplaaGreatDoor
theorem compileSteps_holds:Rows.CompileStepsCardSaid:=compileSteps.card
end Go.Proofs.YtbkhoemaobbplaaGreatDoor
