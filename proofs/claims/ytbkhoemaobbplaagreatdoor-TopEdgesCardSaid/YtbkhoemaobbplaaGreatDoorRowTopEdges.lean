/- THE LAW TopEdges, PROVED: for every input it returns true, and its arguments read as before; the variable that it names holds what the program's text lays. -/
import Derived.Test.YtbkhoemaobbplaaGreatDoorRows
import Derived.Test.YtbkhoemaobbplaaGreatDoorCards
import Derived.Test.YtbkhoemaobbplaaGreatDoorTie
import Derived.WalkKit
import Derived.ProofKit
import Derived.OpenShut
import Derived.ShutString
import Derived.ChangeOld
import Derived.Below
import Derived.SizedLaws
import Derived.SevenTiedAt
import Derived.Test.YtbkhoemaobbplaaGreatDoorGlChk25
import Derived.Test.YtbkhoemaobbplaaGreatDoorNat25
import Derived.Test.YtbkhoemaobbplaaGreatDoorKn25t
import Derived.Test.YtbkhoemaobbplaaGreatDoorArgIW
set_option linter.unusedSimpArgs false
set_option linter.unusedVariables false
open Option renaming some→aaa
namespace Go.Proofs.YtbkhoemaobbplaaGreatDoor.topEdges
open Go.ChangeShapes Go.WideShapes Go.ChangeAt Go.RowKit Go.Ev
open Go.ChangeMaps (open_string shut_string)
def tys:List Ty:=[.str,.sl (.int .u8),.agg [.int .i64,.int .i64,.int .i64],.agg [.int .u32,.int .u32,.int .u64,.arr 6 (.int .u64)]]
theorem walk(cs:List V)(h:K0 tys cs):FP dC 525 cs (.bool true):=by simp only[tys,K0] at h;obtain⟨a,_,rfl,ha,b,_,rfl,hb,c,_,rfl,hc,e,_,rfl,he,rfl⟩:=h;obtain⟨S,rfl⟩:=zFM ha;obtain⟨t,rfl,ht⟩:=zCX hb;obtain⟨x,y,z,rfl⟩:=zFL hc;obtain⟨d,rfl,hd⟩:=zHu he;exact zxa zNm S t x y z d ht hd
theorem PF:(tys.zip Tryz.f7.params.toList).all (fun x=>fV Tryz.prog x.2 x.1)=true:=by kernel_rfl
theorem JB:Tryz.f7.params.toList.all (fun t=>Tryz.prog.readableRec t&&decide (t<Tryz.prog.types.size))=true:=by kernel_rfl
set_option maxRecDepth 100000 in
theorem lifted(os:Os)(started:os.Started)(H:Type)(enc:TypeId×Value->H) :
    ReturnsInHanded {} Tryz.checked os 7 .any (fun w args=>(Rows.topEdgesSpec.pre enc Tryz.prog Tryz.f7 [] false w args/\laidMetH Tryz.prog Td w)/\sizedMet enc Tryz.prog Tryz.f7 (OpenSpec.ofChange Rows.topEdgesSpec) false w args)
      (Rows.topEdgesSpec.post enc Tryz.prog Tryz.f7 false true false false):=by
  refine returnsInHanded_of_change_and (C:=Tryz.checked) (X:=fun w _=>laidMetH Tryz.prog Td w) (fun _ _ _ hh h=>h.of_heap hh) own started (by kernel_rfl) Tryz.func7
    (ChangeSpec.witness_shaped (enc:=enc) (C:=Tryz.checked) (os:=os) (X:=fun w _=>laidMetH Tryz.prog Td w) false (World.doorLaid Tryz.prog 400 os) #[.string ⟨#[]⟩,.slice none 0 0,.agg #[.int .i64 0,.int .i64 0,.int .i64 0],.agg (#[.int .u32 0,.int .u32 0,.int .u64 0]++Array.replicate 6 (.int .u64 0))] 8 rfl (World.shaped_of_RefB (by kernel_rfl) (by kernel_rfl)) (by kernel_rfl) (by kernel_rfl) (by kernel_rfl) (zDQ os _)) ?_
  intro W base args ds gs before PG hW _ _ hL _;have l9:∀(j:Nat) t v,Tryz.f7.params[j]?=some t->args[j]?=some v->Value.okWide Tryz.prog W .any base t v:=PG;have hW':=hW;obtain⟨p,q,vZ,hV,rfl,hfz,mf⟩:=hW;have hA:DataW.TrodAll enc Tryz.prog W 0 (fun _=>true) true Tryz.f7.params.toList args.toList ds p:=vZ;obtain⟨rfl,rfl⟩:=trodVars_none hV;obtain⟨cs,dK,iI⟩:=ztt (fm:=fm) (tys:=tys) (zF6 PF) (by kernel_rfl) (fun j t v ht hv=>l9 j t v (by simpa using ht) (by simpa using hv)) hA
  have hG:CD (M0 fm) W:=zF7 (ty:=.arr 39 (.agg [.int .i64,.str,.bool,.bool])) hL (by kernel_rfl) gSh tSh ZA zNl zIi ZB
  refine(zzw hG zDS (walk cs dK) iI).mono fun e W' ⟨he,bel⟩=>?_
  subst he;have GY:=hA;rw[Tryz.params7] at GY;obtain⟨v0,vs0,d0,ds0,p0,q0,eF,rfl,rfl,h0,r0⟩:=trodAll_cons GY;obtain⟨v1,vs1,d1,ds1,p1,q1,rfl,rfl,rfl,h1,r1⟩:=trodAll_cons r0;obtain⟨v2,vs2,d2,ds2,p2,q2,rfl,rfl,rfl,h2,r2⟩:=trodAll_cons r1;obtain⟨v3,vs3,d3,ds3,p3,q3,rfl,rfl,rfl,h3,r3⟩:=trodAll_cons r2;obtain⟨rfl,rfl,rfl⟩:=trodAll_nil r3;obtain⟨wK,hS⟩:=ztu zGt JB bel hA;exact⟨_,rfl,_,_,_,[],_,[],hW',trodAll_mk1 (shut_bool Tryz.underlying4 _),hS,rfl,bel.frame _,fun h=>by cases h⟩
theorem over:Rows.topEdgesRow.holds Tryz.pinned (OpenSpec.ofChange Rows.topEdgesSpec) :=
  OpenClaim.holds_of_wide 7 Tryz.f7 rfl rfl rfl rfl rfl rfl rfl ⟨rfl,rfl,rfl,rfl,rfl⟩ rfl rfl rfl rfl rfl (by kernel_rfl) Tryz.func7 (by kernel_rfl)
    (of_decide_eq_true (by kernel_rfl)) (by unfold Func.isWrapper;first|(rw[if_pos (by decide +kernel)];kernel_rfl)|(rw[if_neg (by decide +kernel)];exact⟨rfl,rfl⟩))
    (fun os started H enc _=>lifted os started H enc)
theorem card:Rows.TopEdgesCardSaid :=
  Claim7.holds_tied_plain_at .later [] [.data] true (true, "36d02ba4ed8ef80a3956fe1fcbd8c9a473cbb3b3f24371302dce67e93e7aba0b") false
    over (fun _ h=>by cases h) (by kernel_rfl) (fun _ h=>by cases h) topEdges_row_tie rfl ⟨rfl,rfl⟩ (by kernel_rfl) rfl
    (fun f fn hf l8=>by
      obtain rfl : f = 7 := aaa.inj ((show Tryz.prog.funcNamed "hurdle/hurdletop.TopEdges" = some 7 by kernel_rfl).symm.trans hf) |>.symm
      obtain rfl:fn=Tryz.f7:=(aaa.inj (Tryz.func7.symm.trans l8)).symm
      exact⟨by kernel_rfl,fun j t ht=>by
        have hm:t∈Tryz.f7.params.toList:=by simpa using Array.mem_of_getElem? ht
        have aT:(Tryz.f7.params.toList.all fun u=>!Tryz.prog.wantsStandIn u)=true:=by kernel_rfl
        exact(show Tryz.prog.wantsStandIn t=false by simpa using List.all_eq_true.1 aT t hm)⟩)
    (by kernel_rfl)
#print axioms card
end Go.Proofs.YtbkhoemaobbplaaGreatDoor.topEdges
namespace Go.Proofs.YtbkhoemaobbplaaGreatDoor
theorem topEdges_holds:Rows.TopEdgesCardSaid:=topEdges.card
end Go.Proofs.YtbkhoemaobbplaaGreatDoor
