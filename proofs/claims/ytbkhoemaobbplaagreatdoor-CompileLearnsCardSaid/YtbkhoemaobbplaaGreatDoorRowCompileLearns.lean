/- THE LAW CompileLearns, PROVED: for every input it returns true, and its arguments read as before; the variable that it names holds what the program's text lays. -/
import Derived.Test.YtbkhoemaobbplaaGreatDoorRows
import Derived.Test.YtbkhoemaobbplaaGreatDoorCards
import Derived.Test.YtbkhoemaobbplaaGreatDoorTie
import Derived.WalkKit
import Derived.ProofKit
import Derived.OpenShut
import Derived.ShutString
import Derived.ChangeOld
import Derived.Below
import Derived.SizedLaws
import Derived.SevenTiedAt
import Derived.Test.YtbkhoemaobbplaaGreatDoorGlChk25
import Derived.Test.YtbkhoemaobbplaaGreatDoorNat25
import Derived.Test.YtbkhoemaobbplaaGreatDoorKn25
import Derived.Test.YtbkhoemaobbplaaGreatDoorArgCW
import Derived.Test.YtbkhoemaobbplaaGreatDoorCompAW
set_option linter.unusedSimpArgs false
set_option linter.unusedVariables false
open Option renaming some→aab
namespace Go.Proofs.YtbkhoemaobbplaaGreatDoor.compileLearns
open Go.ChangeShapes Go.WideShapes Go.ChangeAt Go.RowKit Go.Ev
open Go.ChangeMaps (open_string shut_string)
def tys:List Ty:=[.str,.sl (.int .u8),.agg [.int .i64,.int .i64,.int .i64]]
theorem walk(cs:List V)(h:KB tys cs):FP dq 524 cs (.bool true):=by simp only[tys,KB] at h;obtain⟨a,_,rfl,ha,b,_,rfl,hb,c,_,rfl,hc,rfl⟩:=h;obtain⟨S,rfl⟩:=zDC ha;obtain⟨t,rfl,ht⟩:=zA4 hb;obtain⟨x,y,z,rfl⟩:=zFb hc;exact zpG Ze S t x y z ht
theorem OP:(tys.zip Tryz.f6.params.toList).all (fun x=>fC Tryz.prog x.2 x.1)=true:=by kernel_rfl
theorem IZ:Tryz.f6.params.toList.all (fun t=>Tryz.prog.readableRec t&&decide (t<Tryz.prog.types.size))=true:=by kernel_rfl
set_option maxRecDepth 100000 in
theorem lifted(os:Os)(started:os.Started)(H:Type)(enc:TypeId×Value->H) :
    ReturnsInHanded {} Tryz.checked os 6 .any (fun w args=>(Rows.compileLearnsSpec.pre enc Tryz.prog Tryz.f6 [] false w args/\laidMetH Tryz.prog Sj w)/\sizedMet enc Tryz.prog Tryz.f6 (OpenSpec.ofChange Rows.compileLearnsSpec) false w args)
      (Rows.compileLearnsSpec.post enc Tryz.prog Tryz.f6 false true false false):=by
  refine returnsInHanded_of_change_and (C:=Tryz.checked) (X:=fun w _=>laidMetH Tryz.prog Sj w) (fun _ _ _ hh h=>h.of_heap hh) own started (by kernel_rfl) Tryz.func6
    (ChangeSpec.witness_shaped (enc:=enc) (C:=Tryz.checked) (os:=os) (X:=fun w _=>laidMetH Tryz.prog Sj w) false (World.doorLaid Tryz.prog 400 os) #[.string ⟨#[]⟩,.slice none 0 0,.agg #[.int .i64 0,.int .i64 0,.int .i64 0]] 8 rfl (World.shaped_of_RefB (by kernel_rfl) (by kernel_rfl)) (by kernel_rfl) (by kernel_rfl) (by kernel_rfl) (zCm os _)) ?_
  intro W base args ds gs before OQ hW _ _ hL _;have qB:∀(j:Nat) t v,Tryz.f6.params[j]?=some t->args[j]?=some v->Value.okWide Tryz.prog W .any base t v:=OQ;have hW':=hW;obtain⟨p,q,xA,hV,rfl,Uo,oC⟩:=hW;have hA:DataW.TrodAll enc Tryz.prog W 0 (fun _=>true) true Tryz.f6.params.toList args.toList ds p:=xA;obtain⟨rfl,rfl⟩:=trodVars_none hV;obtain⟨cs,dD,ig⟩:=zsS (fm:=fm) (tys:=tys) (zEv OP) (by kernel_rfl) (fun j t v ht hv=>qB j t v (by simpa using ht) (by simpa using hv)) hA
  have hG:B6 (M0 fm) W:=zEw (ty:=.arr 39 (.agg [.int .i64,.str,.bool,.bool])) hL (by kernel_rfl) gSh tSh Zc zKO zF8 Zd
  refine(zx9 hG zCo (walk cs dD) ig).mono fun e W' ⟨he,bel⟩=>?_
  subst he;have Gd:=hA;rw[Tryz.params6] at Gd;obtain⟨v0,vs0,d0,ds0,p0,q0,eo,rfl,rfl,h0,r0⟩:=trodAll_cons Gd;obtain⟨v1,vs1,d1,ds1,p1,q1,rfl,rfl,rfl,h1,r1⟩:=trodAll_cons r0;obtain⟨v2,vs2,d2,ds2,p2,q2,rfl,rfl,rfl,h2,r2⟩:=trodAll_cons r1;obtain⟨rfl,rfl,rfl⟩:=trodAll_nil r2;obtain⟨vY,hS⟩:=zsT zEE IZ bel hA;exact⟨_,rfl,_,_,_,[],_,[],hW',trodAll_mk1 (shut_bool Tryz.underlying4 _),hS,rfl,bel.frame _,fun h=>by cases h⟩
theorem over:Rows.compileLearnsRow.holds Tryz.pinned (OpenSpec.ofChange Rows.compileLearnsSpec) :=
  OpenClaim.holds_of_wide 6 Tryz.f6 rfl rfl rfl rfl rfl rfl rfl ⟨rfl,rfl,rfl,rfl,rfl⟩ rfl rfl rfl rfl rfl (by kernel_rfl) Tryz.func6 (by kernel_rfl)
    (of_decide_eq_true (by kernel_rfl)) (by unfold Func.isWrapper;first|(rw[if_pos (by decide +kernel)];kernel_rfl)|(rw[if_neg (by decide +kernel)];exact⟨rfl,rfl⟩))
    (fun os started H enc _=>lifted os started H enc)
theorem card:Rows.CompileLearnsCardSaid :=
  Claim7.holds_tied_plain_at .later [] [.data] true (true, "36d02ba4ed8ef80a3956fe1fcbd8c9a473cbb3b3f24371302dce67e93e7aba0b") false
    over (fun _ h=>by cases h) (by kernel_rfl) (fun _ h=>by cases h) compileLearns_row_tie rfl ⟨rfl,rfl⟩ (by kernel_rfl) rfl
    (fun f fn hf mB=>by
      obtain rfl : f = 6 := aab.inj ((show Tryz.prog.funcNamed "hurdle/hurdlelaw25.CompileLearns" = some 6 by kernel_rfl).symm.trans hf) |>.symm
      obtain rfl:fn=Tryz.f6:=(aab.inj (Tryz.func6.symm.trans mB)).symm
      exact⟨by kernel_rfl,fun j t ht=>by
        have hm:t∈Tryz.f6.params.toList:=by simpa using Array.mem_of_getElem? ht
        have aT:(Tryz.f6.params.toList.all fun u=>!Tryz.prog.wantsStandIn u)=true:=by kernel_rfl
        exact(show Tryz.prog.wantsStandIn t=false by simpa using List.all_eq_true.1 aT t hm)⟩)
    (by kernel_rfl)
#print axioms card
end Go.Proofs.YtbkhoemaobbplaaGreatDoor.compileLearns
namespace Go.Proofs.YtbkhoemaobbplaaGreatDoor
theorem compileLearns_holds:Rows.CompileLearnsCardSaid:=compileLearns.card
end Go.Proofs.YtbkhoemaobbplaaGreatDoor
