/- A policy made a filter: contract. -/
import Derived.Test.YtbkhoemaobbplaaGreatDoorLowOW
import Derived.Test.YtbkhoemaobbplaaGreatDoorEvXW
import Derived.Test.YtbkhoemaobbplaaGreatDoorEvWinCW
set_option linter.defProp false
set_option linter.unusedSimpArgs false
set_option linter.unusedVariables false
set_option maxHeartbeats 8000000
set_option maxRecDepth 10000
open Nat renaming le_of_ble_eq_true→aaa,le_refl→aa3,pow_le_pow_right→abd,sub_self→abA,add_comm→abB,mul_comm→abC,testBit_two_pow_sub_one→abJ,add_sub_cancel_left→abS,eq_of_testBit_eq→ab7,mod_lt→ab9,zero_add→acj,one_le_two_pow→ack,zero_le→acv,pow_succ→acE
open Int renaming natCast_add→aab,eq_ofNat_of_zero_le→aat,natCast_mul→aaD,toNat_natCast→aa0,toNat→abl,natCast_ediv→acy,mul_emod→acF
open List renaming reduceReplicate→aad,getElem?_eq_getElem→aae,getD_eq_getElem?_getD→aah,getElem?_eq_some_iff→aal,getElem?_append_left→aam,length_set→aan,getElem?_append_right→aap,take_of_length_le→aaq,mem_of_getElem?→aau,length_take→aaw,set_append_right→aay,mem_of_mem_take→aaz,zipWith→aaA,getElem?_set_ne→aaB,getElem_mem→aaE,replicate→aaF,getElem?_take→aaG,mem_map→aaH,take_add_one→aaI,take_left'→aaK,cons_append→aaL,length_append→aaM,drop_drop→aaQ,getElem?_of_mem→aaS,append_assoc→aaT,getElem?_set→aaU,take_length→aaV,length_cons→aaW,drop_eq_nil_of_le→aaX,mem_append→aaY,drop_left'→aaZ,drop_eq_getElem_cons→aa2,all_eq_true→aa4,replicate_succ→aa6,getD_cons_succ→aa7,drop_one→aa8,map_cons→aa9,mem_cons→aa_,nil_append→aba,zipWith_cons_cons→abb,drop_append_of_le_length→abc,append_nil→abe,mem_or_eq_of_mem_set→abh,getElem?_drop→abk,mem_replicate→abm,set_cons_zero→abn,getD→abq,mem_range→abr,getElem?_replicate→abt,set_append_left→abx,map_append→abz,length_take_le→abD,length→abF,mem_singleton→abG,set_cons_succ→abI,ext_getElem?→abK,mem_of_find?_eq_some→abO,map_set→abP,not_mem_nil→abQ,getElem?_cons_succ→abU,foldl_cons→abZ,range_succ→ab1,length_filter_le→ab3,getElem?_zipWith→ab4,drop_zero→ab5,range→ab6,mem_of_mem_drop→ab_,sum_cons→aca,set_comm→acd,length_pos_iff→ace,getElem_of_mem→acg,take_succ_cons→ach,map_congr_left→aci,map_map→acp,prefix_append→acr,getElem?_map→acs,flatten_cons→acu,prefix_refl→acx,length_map→acz,length_nil→acA,map_drop→acC
open Bool renaming false_eq_true→aav,and_eq_true→aax,eq_iff_iff→abi,true_and→acb,false_and→acB,and_true→acD
open Function renaming comp_def→aaJ
open Option renaming getD_some→aa5,map→abv,some→abE,isSome_some→abH,map_some→ab0
namespace Go.Ev
open Go Go.RowKit
variable {G:aM}
def Ru.wf(r:Ru):Prop:=r.conds.length<=maxLen/\(∀ x∈r.conds,x.ok)/\r.aA<4294967296/\r.nr<4294967296/\r.act<4294967296
def Po.wf(p:Po):Prop:=p.rules.length<=maxLen/\(∀ r∈p.rules,r.wf)/\p.cF<4294967296
def Zc{p:Po}(h:p.wf)(a:vV p=true):p.dc/\p.rules.length<=64/\∀ r∈p.rules,r.conds.length<=4:=by simp only[vV,aax,decide_eq_true_eq,aa4,jh] at a;obtain⟨⟨b,e⟩,d⟩:=a;exact⟨⟨fun r a=>⟨fun x c=>⟨(b r a).1.1 x c,(h.2.1 r a).2.1 x c⟩,(h.2.1 r a).2.2⟩,h.2.2⟩,d,fun r a=>(b r a).2⟩
def zpr(rs:List Ru)(o:Nat)(a:Nat):∀(l:List Nat) (c:List af),jo rs o (l++[a]) c=(sn rs o a (jo rs o l c).1,(jo rs o l c).2++[(a,(sn rs o a (jo rs o l c).1).length)])
 | [],c=>rfl
 | m::l,c=>by
  have b:=zpr rs o a l (sn rs o m c);simp only[aaL,jo,b]
def zps(x:Nat×Nat):∀(l:List (Nat×Nat)) (s:rB),df (l++[x]) s=(f_ (df l s).1 21 x.1 x.2 (df l s).2,(f_ (df l s).1 21 x.1 x.2 (df l s).2).length)
 | [],s=>rfl
 | y::l,s=>by
  have a:=zps x l (f_ s.1 21 y.1 y.2 s.2,(f_ s.1 21 y.1 y.2 s.2).length);simp only[aaL,df,a]
structure OE where
 i:Nat
 of:List EO
 dG:List EN
 ms:List Nat
 Z:ae
def zCV[eB G][bN G][i_ G][az G][bF G][eK G][cM G][bp G][eC G][fj G](p:Po)(hp:p.wf) :
  FP G 428 [.agg p.cs] (.a_ [FL (if vV p then kF p else []),.int .i64 (if vV p then 0 else 1)]):=by
 refine bD fj.afb (aaa rfl) ?_;have wr:=zpw (G:=G) p hp.1 (fun r t=>⟨(hp.2.1 r t).1,(hp.2.1 r t).2.2.2.2⟩) hp.2.2;simp only[Po.cs] at wr;simp[Po.cs];refine ax wr ?_
 cases t:vV p with
 | false=>simp[FL]
 | true =>
  obtain⟨K,hl,jQ⟩:=Zc hp t;have qI:nQ [some (.cells p.cs),some (oE [] .full),some (.cells [.ptr 1 0]),none] 1 [] .full:=⟨rfl,.inr rfl,by intro n hn;simp at hn;simp[oE,aw.cl,Po.cs,aX,V.cl,Tk.cl,show 1<n by omega]⟩;have w0:=K_ (G:=G) qI 6 p.cF (.inr (.inl rfl)) ir;obtain⟨g,RB⟩:∃ g,g=bt [] 6 p.cF:=⟨_,rfl⟩
  have Zd:g.length=1:=by rw[RB];rfl
  rw[<-RB] at w0;rw[Zd] at w0;simp only[oE,Po.cs,zGT] at w0;simp;refine cL w0 ?_;simp[dL,oE]
  have n8:(RL p.rules).length=p.rules.length:=by simp
  refine zDG (fun s:OE=>p.rules.length-s.i) (fun s=>[(4,.ptr 2 0),(5,.ptr 3 0),(6,.ptr 5 0),(7,.ptr 7 0),(8,.vs (ak .u32 s.ms) (.own 8)),(31,.vs (RL p.rules) .no),(32,.int .i64 p.rules.length),(33,.int .i64 s.i)])
   (fun s=>LH p g (s.of.map vO) (s.dG.map vN) s.ms.length s.Z) (fun s=>s.i<=p.rules.length/\kG (p.rules.take s.i) s.of s.dG s.ms s.Z) ⟨0,[],[],[],[]⟩ ?_ ?_
  ·refine⟨⟨acv _,⟨rfl,rfl,ir,ir,ir,ir,ir,ir,ir,fun _=>rfl⟩⟩,?_⟩;simp[av,aj,LH,oE,Po.cs]
   done
  rintro⟨i,of,dG,ms,Z⟩ ⟨hi,b⟩;simp only at hi b |-;have fH:∀ r:ae,(∀ n,r.map (abv (aw.cl n))=r)->im (LH p g (of.map vO) (dG.map vN) ms.length (Z++r)):=fun r t=>Ze (b.more t).cz (fun e d=>(b.more t).pS d) (fun e d=>(b.more t).pT d)
  by_cases ai:i<p.rules.length
  ·obtain⟨r,NB⟩:∃ r,r=p.rules[i]:=⟨_,rfl⟩
   have hg:p.rules[i]?=some r:=by rw[aae ai,NB]
   have L:=GO hg
   have gQ:(RL p.rules)[i]'(by simpa using ai)=r.cs:=by rw[aae (by simpa using ai)] at L;exact abE.inj L
   have fc:p.rules.take (i+1)=p.rules.take i++[r]:=by rw[aaI,hg];rfl
   have A:∀(R:ae) (k:Nat),(Z++R)[Z.length+k]?=R[k]?:=fun R k=>by rw[aap an];congr 1;omega
   have Q:∀(R:ae),(Z++R)[Z.length]?=R[0]?:=fun R=>A R 0
   have sk:∀(R:ae) (k:Nat) (x:Option aw),(Z++R).set (Z.length+k) x=Z++R.set k x:=fun R k x=>by rw[aay _ _ an];congr 2;omega
   have BE:∀(R:ae) (x:Option aw),(Z++R).set Z.length x=Z++R.set 0 x:=fun R x=>sk R 0 x;simp only[Ru.cs] at L gQ
   have OF:∀ a n,(eX (p.rules.take i) a n).length<=64:=fun a n=>by have h1:=ab3 (fun r:Ru=>decide (r.aA=a/\r.nr=n)) (p.rules.take i);have h2:=abD i p.rules;unfold eX;omega
   have Zf:∀ l:List Ru,(∀ f∈RL l,f.length=4)=True:=fun l=>eq_true (fun f K=>by simp only[RL,aaH] at K;obtain⟨x,_,rfl⟩:=K;rfl)
   have Zg:∀ l:List Ru,RL l++[[.int .u32 (r.aA:Int),.int .u32 (r.nr:Int),.vs (CL r.conds) .no,.int .u32 (r.act:Int)]]=RL (l++[r]):=fun l=>by simp[RL,Ru.cs]
   have jF:=Eh r.aA r.nr r.aA r.nr;simp only[and_self,decide_true] at jF;have Ce:=Ei r.aA r.aA;simp only[decide_true] at Ce
   have M:∀(IB:List EO) (xm:List EN) (U:List Nat) (D:ae) (F:Env) (H1:ae),kG (p.rules.take (i+1)) IB xm U D->H1=LH p g (IB.map vO) (xm.map vN) U.length D ->
     (oR [4,5,6,7,8,31,32,33] F).cl (D.length+9)=ib [(4,.ptr 2 0),(5,.ptr 3 0),(6,.ptr 5 0),(7,.ptr 7 0),(8,.vs (ak .u32 U) (.own 8)),(31,.vs (RL p.rules) .no),(32,.int .i64 p.rules.length),(33,.int .i64 (i+1:Nat))] ->
     Zh (fun s:OE=>p.rules.length-s.i) (fun s=>[(4,.ptr 2 0),(5,.ptr 3 0),(6,.ptr 5 0),(7,.ptr 7 0),(8,.vs (ak .u32 s.ms) (.own 8)),(31,.vs (RL p.rules) .no),(32,.int .i64 p.rules.length),(33,.int .i64 s.i)])
      (fun s=>LH p g (s.of.map vO) (s.dG.map vN) s.ms.length s.Z) (fun s=>s.i<=p.rules.length/\kG (p.rules.take s.i) s.of s.dG s.ms s.Z) [4,5,6,7,8,31,32,33] 9 ⟨i,of,dG,ms,Z⟩ F H1:=by
    intro IB xm U D F H1 qq hH d;subst hH;have hs:=(Ze (p:=p) (c:=g) (m:=U.length) qq.cz (fun e d=>qq.pS d) (fun e d=>qq.pT d)).self;rw[s9] at hs;exact⟨⟨i+1,IB,xm,U,D⟩,D.length+9,by simp only;omega,⟨ai,qq⟩,an,by rw[s9];exact aa3 _,d,hs⟩
   simp(disch:=omega)[bM,gQ,Gh,s9,zz,Lb,A,Q,sk,BE]
   by_cases W:(r.aA,r.nr)∈of.map (·.1)
   ·obtain⟨e,d,B⟩:=aaH.1 W;obtain⟨j,E⟩:=aaS d;obtain⟨⟨ea,en⟩,w,z⟩:=e;simp only[Prod.mk.injEq] at B;obtain⟨rfl,rfl⟩:=B;have zg:=zEz b.ok E;have xV:=b.ov _ d;simp only at xV
    have hC:w.length<=64:=by rw[xV];exact OF _ _
    have Zi:(w.length==0)=false:=by
     obtain⟨x,hx,fy⟩:=(b.om (r.aA,r.nr)).1 W
     have:x∈w:=by rw[xV,eX];exact List.mem_filter.2 ⟨hx,by simpa using fy⟩
     have:=List.length_pos_of_mem this;exact beq_false_of_ne an
    have OG:((w.length:Int)==0)=false:=aO (by have:=ne_of_beq_false Zi;omega);have hz:=b.oz _ d;simp only at hz;have N:=b.pS d;simp only at N;have gz:∀ R:ae,(Z++R)[z]?=some (some (.zone w.length)):=fun R=>SJ hz;have sz:∀(R:ae) (x:Option aw),(Z++R).set z x=Z.set z x++R:=fun R x=>abx _ _ N
    have hb:(of.map vO)[j]?=some (.agg [.int .u32 (r.aA:Int),.int .u32 (r.nr:Int)],.vs (RL w) (.own (z+9))):=by rw[acs,E];rfl
    have F:(of.map vO).set j (.agg [.int .u32 (r.aA:Int),.int .u32 (r.nr:Int)],.vs (RL w) (.own (z+9)))=of.map vO:=Dm hb
    have e2:(of.map vO).set j (.agg [.int .u32 (r.aA:Int),.int .u32 (r.nr:Int)],.vs (RL (w++[r])) (.own (z+9)))=(of.set j ((r.aA,r.nr),w++[r],z)).map vO:=by rw[abP];rfl
    have O:((w.length+1)*40<=140737488355328)=True:=eq_true an;simp(disch:=omega)[Ej,Ek,Gh,s9,zz,Lb,Zj,A,Q,gz,sz,zg,OG,F,e2,hb,O,Zf,Zg];refine M (of.set j ((r.aA,r.nr),w++[r],z)) dG ms (Z.set z (some (.zone (w.length+1)))++[some (.cells r.cs),some (.cells [.int .u32 (r.aA:Int),.int .u32 (r.nr:Int)]),none]) _ _ ?_ ?_ ?_
    ·rw[fc,<-sz];exact(b.more (R:=[some (.cells r.cs),some (.cells [.int .u32 (r.aA:Int),.int .u32 (r.nr:Int)]),none]) (fun n=>by simp[aw.cl,Zk,aX,V.cl])).Zl E
    ·rw[abP];rfl
    ·simp(disch:=omega)[av,gO,bH,-aab]
   ·have zg:=zDI W;have NW:(Z.length+2<=Z.length)=False:=eq_false an;have OH:(Z.length+2<=Z.length+1)=False:=eq_false an;have R5:(Z.length+3<=Z.length)=False:=eq_false an;have Zm:(Z.length+3<=Z.length+1)=False:=eq_false an
    have wo:(of.map vO++[(V.agg [.int .u32 (r.aA:Int),.int .u32 (r.nr:Int)],V.vs [] .full)])[of.length]?=some (V.agg [.int .u32 (r.aA:Int),.int .u32 (r.nr:Int)],V.vs [] .full):=by rw[aap ir];simp
    have H:∀ v,(of.map vO++[(V.agg [.int .u32 (r.aA:Int),.int .u32 (r.nr:Int)],V.vs [] .full)]).set of.length (V.agg [.int .u32 (r.aA:Int),.int .u32 (r.nr:Int)],v)=of.map vO++[(V.agg [.int .u32 (r.aA:Int),.int .u32 (r.nr:Int)],v)]:=fun v=>by rw[aay _ _ ir];simp
    by_cases Co:r.aA∈dG.map (·.1)
    ·obtain⟨e,d,B⟩:=aaH.1 Co;obtain⟨j,E⟩:=aaS d;obtain⟨ea,I,z⟩:=e;simp only at B;subst B;have lG:=zEy (by rw[b.nk];exact Lc _) E;have Zn:=b.nv _ d;simp only at Zn
     have Zo:((I.length:Int)==0)=false:=by
      have:r.aA∈eJ (p.rules.take i):=by rw[<-b.nk];exact Co
      have:=ace.2 (OI this);rw[<-Zn] at this;exact aO an
     have hD:I.length<=64:=by
      have h1:=OJ (((p.rules.take i).filter fun x=>decide (x.aA=r.aA)).map (·.nr)) []
      have h2:=ab3 (fun x:Ru=>decide (x.aA=r.aA)) (p.rules.take i);have h3:=abD i p.rules;simp only[acz,acA,acj] at h1
      have:I.length<=((p.rules.take i).filter fun x=>decide (x.aA=r.aA)).length:=by rw[Zn];exact h1
      omega
     have hz:=b.nz _ d;simp only at hz;have N:=b.pT d;simp only at N;have gz:∀ R:ae,(Z++R)[z]?=some (some (.zone I.length)):=fun R=>SJ hz;have sz:∀(R:ae) (x:Option aw),(Z++R).set z x=Z.set z x++R:=fun R x=>abx _ _ N
     have hc:∀(x:Option aw) (R:ae) (k:Nat),(Z.set z x++R)[Z.length+k]?=R[k]?:=fun x R k=>by rw[aap ir,aan];congr 1;omega
     have Zp:∀(x:Option aw) (R:ae),(Z.set z x++R)[Z.length]?=R[0]?:=fun x R=>hc x R 0
     have ht:∀(y:Option aw) (R:ae) (k:Nat) (x:Option aw),(Z.set z y++R).set (Z.length+k) x=Z.set z y++R.set k x:=fun y R k x=>by rw[aay _ _ ir,aan];congr 2;omega
     have O:((I.length+1)*4<=140737488355328)=True:=eq_true an
     have e3:(dG.map vN).set j (.int .u32 (r.aA:Int),.vs (ak .u32 (I++[r.nr])) (.own (z+9)))=(dG.set j (r.aA,I++[r.nr],z)).map vN:=by rw[abP];rfl
     simp(disch:=omega)[Ej,Ek,IC,ID,Gh,s9,zz,Lb,Zj,zEx,A,Q,gz,sz,hc,Zp,ht,zg,lG,Zo,wo,H,e3,O,NW,OH,R5,Zm]
     have El:∀ q∈dG.map (·.2.2)++of.map (·.2.2),q<Z.length:=by
      intro q C
      rcases aaY.1 C with C|C
      ·obtain⟨e,d,rfl⟩:=aaH.1 C;exact b.pT d
      ·obtain⟨e,d,rfl⟩:=aaH.1 C;exact b.pS d
     refine M (of++[((r.aA,r.nr),[r],Z.length+3)]) (dG.set j (r.aA,I++[r.nr],z)) ms (Z.set z (some (.zone (I.length+1)))++[some (.cells r.cs),some (.cells [.int .u32 (r.aA:Int),.int .u32 (r.nr:Int)]),none,some (.zone 1)]) _ _ ?_ ?_ ?_
     ·rw[fc,<-sz];exact(b.more (R:=[some (.cells r.cs),some (.cells [.int .u32 (r.aA:Int),.int .u32 (r.nr:Int)]),none,some (.zone 1)]) (fun n=>by simp[aw.cl,Zk,aX,V.cl])).Zq W E (by rw[A];rfl) (fun h=>by have:=El _ h;omega)
     ·rw[abP,abz];rfl
     ·simp(disch:=omega)[av,gO,bH,-aab]
    ·have lG:=zDH Co
     have hE:ms.length<=64:=by have h1:=Zr (p.rules.take i);have h3:=abD i p.rules;rw[b.s_];omega
     have O:((ms.length+1)*4<=140737488355328)=True:=eq_true an;have hu:(Z.length+4<=Z.length)=False:=eq_false an;have Zs:(Z.length+4<=Z.length+1)=False:=eq_false an;simp(disch:=omega)[Ej,Ek,IC,ID,Zt,Gh,s9,zz,Lb,Zj,zEx,zL1,A,Q,sk,zg,lG,wo,H,O,NW,OH,R5,hu,Zs]
     have El:∀ q∈dG.map (·.2.2)++of.map (·.2.2),q<Z.length:=by
      intro q C
      rcases aaY.1 C with C|C
      ·obtain⟨e,d,rfl⟩:=aaH.1 C;exact b.pT d
      ·obtain⟨e,d,rfl⟩:=aaH.1 C;exact b.pS d
     refine M (of++[((r.aA,r.nr),[r],Z.length+4)]) (dG++[(r.aA,[r.nr],Z.length+3)]) (ms++[r.aA]) (Z++[some (.cells r.cs),some (.cells [.int .u32 (r.aA:Int),.int .u32 (r.nr:Int)]),none,some (.zone 1),some (.zone 1)]) _ _ ?_ ?_ ?_
     ·rw[fc];exact(b.more (R:=[some (.cells r.cs),some (.cells [.int .u32 (r.aA:Int),.int .u32 (r.nr:Int)]),none,some (.zone 1),some (.zone 1)]) (fun n=>by simp[aw.cl,Zk,aX,V.cl])).Zu Co (by rw[A];rfl) (by rw[A];rfl) (fun h=>by have:=El _ h;omega) (fun h=>by have:=El _ h;omega) an
     ·rw[abz,abz,aaM];rfl
     ·simp(disch:=omega)[av,gO,bH,-aab]
  ·have W:i=p.rules.length:=an
   subst W;rw[aaV] at b;have tT:=(fH [] (fun _=>rfl)).self;simp only[abe,s9] at tT;simp(disch:=omega)[s9,Gh];have lY:=Zv hl jQ;unfold Em at lY;have H:ms=eJ p.rules:=b.s_
   have hF:ms.length<=64:=by have:=Zr p.rules;rw[<-H] at this;omega
   obtain⟨S,hS⟩:∃ S:Nat->List af×List (Nat×Nat),∀ k,S k=jo p.rules 1 (ms.take k) g:=⟨_,fun _=>rfl⟩
   have BD:S 0=(g,[]):=by rw[hS];rfl
   have yz:S ms.length=jo p.rules 1 (eJ p.rules) g:=by rw[hS,aaV,H]
   have Ci:1<=1/\1<=g.length:=⟨aa3 _,an⟩
   have hh:∀ k,Came g ((S k).1,1) (BI p.rules (ms.take k))/\kX (S k).1 (S k).2/\(S k).2.map (·.1)=ms.take k:=fun k=>by
    rw[hS];exact Ld K.1 (fun a ha=>by rw[H] at ha;exact aaz ha) Ci
   have OK:∀(c':List af) (r:ae),(∀ n,r.map (abv (aw.cl n))=r)->im (LH p c' (of.map vO) (dG.map vN) ms.length (Z++r)):=fun c' r t=>Ze (b.more t).cz (fun e d=>(b.more t).pS d) (fun e d=>(b.more t).pT d);have Zw:∀(c':List af) (r:ae),(∀ n,r.map (abv (aw.cl n))=r)->nQ (LH p c' (of.map vO) (dG.map vN) ms.length (Z++r)) 1 c' .no:=fun c' r t=>⟨rfl,.inl rfl,OK c' r t⟩;have bY:∀(c' c2:List af) (D:ae),dL (LH p c' (of.map vO) (dG.map vN) ms.length D) 1 c2=LH p c2 (of.map vO) (dG.map vN) ms.length D:=fun c' c2 D=>rfl
   have A:∀(R:ae) (k:Nat),(Z++R)[Z.length+k]?=R[k]?:=fun R k=>by rw[aap an];congr 1;omega
   have Q:∀(R:ae),(Z++R)[Z.length]?=R[0]?:=fun R=>A R 0
   have BE:∀(R:ae) (x:Option aw),(Z++R).set Z.length x=Z++R.set 0 x:=fun R x=>by rw[aay _ _ an,abA]
   have SK:∀(c':List af) (k:Nat) (r:ae),aj (Z.length+1+9) (LH p c' (of.map vO) (dG.map vN) ms.length (Z++some (.zone k)::r))=LH p c' (of.map vO) (dG.map vN) ms.length (Z++[some (.zone k)]):=fun c' k r=>by
    have:=(OK c' [some (.zone k)] (fun _=>rfl)).back r;rw[Gh,s9,aaM,aaT] at this;exact this
   refine aQ ms.length (fun k=>[(4,.ptr 2 0),(5,.ptr 3 0),(12,.fn 425 [.ptr 7 0,.ptr 2 0,.ptr 5 0,.ptr 3 0]),(13,.vs (EL (S k).2) (.own (Z.length+9))),(79,.vs (ak .u32 ms) (.own 8)),(80,.int .i64 ms.length),(81,.int .i64 k)])
    (fun k=>LH p (S k).1 (of.map vO) (dG.map vN) ms.length (Z++[some (.zone k)])) (fun _=>True) ?_ ?_
   ·simp(disch:=omega)[av,gO,s9,BD,SK,show EL []=[] from rfl]
   intro k hk _
   by_cases X:k<ms.length
   ·obtain⟨a,hw⟩:∃ a,a=ms[k]:=⟨_,rfl⟩
    have oO:ms[k]?=some a:=by rw[aae X,hw]
    have yU:(ak .u32 ms)[k]?=some [.int .u32 (a:Int)]:=by simp[oO]
    have xW:(ak .u32 ms)[k]'(by simpa using X)=[.int .u32 (a:Int)]:=by rw[aae (by simpa using X)] at yU;exact abE.inj yU
    have ho:a∈eJ p.rules:=by rw[<-H];exact aau oO
    have P:S (k+1)=(sn p.rules 1 a (S k).1,(S k).2++[(a,(sn p.rules 1 a (S k).1).length)]):=by rw[hS,hS,aaI,oO];exact zpr _ _ _ _ _
    obtain⟨j1,j2,j3⟩:=hh k
    have xp:(S k).2.length=k:=by rw[<-acz (f:=(·.1)),j3,aaw];omega
    have Zx:=Zy (En p.rules) ms k a oO;rw[show eY (En p.rules) ms=BI p.rules (eJ p.rules) by rw[H];rfl] at Zx;have gj:=j1.grown.len;obtain⟨⟨Y,Zz⟩,rT⟩:∃ s,s=S k:=⟨_,rfl⟩;rw[<-rT] at P gj j1 xp |-;simp only[BI] at P gj xp lY Zx
    have hy:∃ j z:Nat,dG[j]?=some (a,fM p.rules a,z):=by
     have:a∈dG.map (·.1):=by rw[b.nk];exact ho
     obtain⟨e,d,B⟩:=aaH.1 this;obtain⟨j,E⟩:=aaS d;have hv:=b.nv e d;obtain⟨F,e2,e3⟩:=e;simp only at B hv;subst B;exact⟨j,e3,by rw[E,hv]⟩
    obtain⟨jn,zn,yu⟩:=hy;have ZA:=b.pT (aau yu);simp only at ZA
    have Le:zBr (dG.map vN) a (fM p.rules a) (LH p Y (of.map vO) (dG.map vN) ms.length (Z++[some (.zone k),none])).length :=
     ⟨jn,.own (zn+9),zEy (by rw[b.nk];exact Lc _) yu,fun m hm=>by rw[s9] at hm;simp at hm;simp[Tk.cl];omega⟩
    have ji:∀ n∈fM p.rules a,zBs (of.map vO) a n (eX p.rules a n) (LH p Y (of.map vO) (dG.map vN) ms.length (Z++[some (.zone k),none])).length:=fun n hn=>by
     have:(a,n)∈of.map (·.1):=(b.om _).2 (by obtain⟨x,hx,F,e2⟩:=SL.1 hn;exact⟨x,hx,Prod.ext F e2⟩)
     obtain⟨e,d,B⟩:=aaH.1 this;obtain⟨j,E⟩:=aaS d;have hv:=b.ov e d;have N:=b.pS d;obtain⟨F,e2,e3⟩:=e;simp only at B hv N;subst B;simp only at hv;subst hv;exact⟨j,.own (e3+9),zEz b.ok E,fun m hm=>by rw[s9] at hm;simp at hm;simp[Tk.cl];omega⟩
    have wb:=zBt (G:=G) (rs:=p.rules) (a:=a) (o:=1) (Zw Y [some (.zone k),none] (fun _=>rfl)) (pn:=7) (pm:=2) (po:=5) (px:=3) (mn:=6) (mo:=4) ID BJ Ej OL IC Ek Le ji K.1 ho an ⟨aa3 _,an⟩ an;rw[bY] at wb;obtain⟨r1,H2,hB,gh,ZB⟩:=wb;have O:((k+1)*16<=140737488355328)=True:=eq_true an;have eE:=zxY Zz (a,(sn p.rules 1 a Y).length);simp only at eE;simp(disch:=omega)[bM,yU,Gh,s9]
    refine kj (H1:=H2) (by simpa using hB) (fun h=>by simp at h) ?_;rw[gh,ZB];simp(disch:=omega)[SM,zz,Lb,Q,BE,xp,O,eE,av,gO,bH,P,SK,X,-aab]
   ·have Ce:k=ms.length:=an
    subst Ce;rw[yz]
    have IE:ms.length=(jo p.rules 1 (eJ p.rules) g).2.length:=by obtain⟨_,_,h3⟩:=hh ms.length;rw[yz,aaV] at h3;have:=congrArg abF h3;simpa using this.symm
    obtain⟨q1,q2,q3⟩:=Ld (rs:=p.rules) (o:=1) K.1 (l:=eJ p.rules) (c:=g) (fun _ h=>h) Ci
    have Eg:∀ e∈(jo p.rules 1 (eJ p.rules) g).2,e.1<4294967296:=by
     intro e d
     have:e.1∈eJ p.rules:=by rw[<-q3];exact aaH.2 ⟨e,d,rfl⟩
     obtain⟨r,t,h⟩:=SN.1 this;rw[<-h];exact(K.1 r t).2.1
    have ZC:kF p=if(jo p.rules 1 (eJ p.rules) g).2=[] then(df (jo p.rules 1 (eJ p.rules) g).2 ((jo p.rules 1 (eJ p.rules) g).1,1)).1 else bt (df (jo p.rules 1 (eJ p.rules) g).2 ((jo p.rules 1 (eJ p.rules) g).1,1)).1 32 4:=by rw[RB];rfl
    rw[ZC];have gq:=q1.grown.len
    have hG:(eJ p.rules).length=ms.length:=by rw[H]
    obtain⟨⟨J,u⟩,ZE⟩:∃ s,s=jo p.rules 1 (eJ p.rules) g:=⟨_,rfl⟩;rw[<-ZE] at q1 q2 q3 Eg gq IE |-;have ZF:=q1.jB;simp only at gq IE q2 Eg ZF lY |-;obtain⟨T,hT⟩:∃ T:Nat->rB,∀ k,T k=df (u.take k) (J,1):=⟨_,fun _=>rfl⟩
    have v5:T 0=(J,1):=by rw[hT];rfl
    have mY:T u.length=df u (J,1):=by rw[hT,aaV]
    have hA:∀ k,Came J (T k) (3*u.length):=fun k=>by
     rw[hT];exact(SO (s:=(J,1)) (fun e d=>q2 e (aaz d)) (fun e d=>Eg e (aaz d)) ZF).mono (by rw[aaw];omega)
    have iF:u.length=ms.length:=IE.symm;simp(disch:=omega)[s9,OL,iF];have hM:=fun c'=>Zw c' [some (.zone ms.length)] (fun _=>rfl)
    refine aQ ms.length (fun k=>[(4,.ptr 2 0),(13,.vs (EL u) (.own (Z.length+9))),(16,.int .i64 (T k).2),(95,.vs (EL u) (.own (Z.length+9))),(96,.int .i64 ms.length),(97,.int .i64 k)])
     (fun k=>LH p (T k).1 (of.map vO) (dG.map vN) ms.length (Z++[some (.zone ms.length)])) (fun _=>True) ?_ ?_
    ·simp(disch:=omega)[av,gO,s9,v5,SK]
    intro k hk _
    by_cases X:k<ms.length
    ·have Eo:k<u.length:=an
     obtain⟨x,rM⟩:∃ x,x=u[k]'Eo:=⟨_,rfl⟩
     have zX:u[k]?=some x:=by rw[aae Eo,rM]
     have L:=zBp zX
     have xW:(EL u)[k]'(by simpa using Eo)=[.int .u32 (x.1:Int),.int .i64 (x.2:Int)]:=by rw[aae (by simpa using Eo)] at L;exact abE.inj L
     have jv:T (k+1)=(f_ (T k).1 21 x.1 x.2 (T k).2,(f_ (T k).1 21 x.1 x.2 (T k).2).length):=by rw[hT,hT,aaI,zX];exact zps _ _ _
     have tc:=SO (l:=u.take k) (s:=(J,1)) (fun e d=>q2 e (aaz d)) (fun e d=>Eg e (aaz d)) ZF;rw[<-hT] at tc;have gt:=tc.grown.len;have lt:=tc.jB;rw[aaw] at gt;have lx:=q2 x (aau zX);simp only at lx gt;obtain⟨⟨Y,o1⟩,rT⟩:∃ s,s=T k:=⟨_,rfl⟩;rw[<-rT] at jv gt lt |-;simp only at gt lt jv;have wb:=IF (G:=G) (Zw Y [some (.zone ms.length),some (.cells [.int .u32 (x.1:Int),.int .i64 (x.2:Int)])] (fun n=>rfl)) 21 x.1 x.2 o1 (.inl rfl) ⟨lx.1,an⟩ lt an
     rw[bY] at wb;simp(disch:=omega)[bM,L,Gh,s9,zz,Lb,A,BJ];refine cL wb ?_;simp(disch:=omega)[av,gO,bH,jv,SK,X,-aab]
    ·have ZG:k=ms.length:=an
     subst ZG
     have ve:T ms.length=df u (J,1):=by rw[<-iF];exact mY
     by_cases iC:u=[]
     ·have NT:ms.length=0:=by rw[<-iF,iC];rfl
      have OM:(0<ms.length)=False:=eq_false an;rw[if_pos iC];rw[ve];generalize df u (J,1)=s2;simp(disch:=omega)[s9,iF,OM,ON,BJ,FL]
     ·have NT:ms.length≠0:=by rw[<-iF];exact fun h=>iC (List.length_eq_zero_iff.1 h)
      have OM:((0:Int)<(ms.length:Int))=True:=eq_true an;have tc:=(hA ms.length).grown.len;rw[ve] at tc;rw[if_neg iC];rw[ve];generalize df u (J,1)=s2 at *;have wa:=K_ (G:=G) (hM s2.1) 32 4 (.inr (.inr ⟨rfl,by decide,by decide⟩)) an;rw[bY] at wa;simp(disch:=omega)[gO,s9,iF,BJ];refine cL wa ?_;simp(disch:=omega)[s9,ON,BJ,FL]
def su(o:Nat->Nat->Nat)(f g:List Nat)(i:Nat):List Nat:=aaA o (f.take i) (g.take i)++f.drop i
section
variable {o:Nat->Nat->Nat} {f g:List Nat} {i n:Nat}
def zxu(a:f.length=n)(b:g.length=n):(su o f g i).length=n:=by simp[su,a,b];omega
def zCW:su o f g 0=f:=by simp[su]
def zFx(a:f.length=n)(b:g.length=n):su o f g n=aaA o f g:=by rw[su,aaq an,aaq an,aaX an,abe]
def zFy(a:f.length=n)(b:g.length=n)(h:i<n):(su o f g i)[i]?=some (f[i]' an):=by
 rw[su,aap (by simp;omega)]
 have e:i-(aaA o (f.take i) (g.take i)).length=0:=by simp;omega
 rw[e,abk];exact kP an
def zxv(b:f.length=n)(c:g.length=n)(h:i<n):(su o f g i).set i (o (f[i]' an) (g[i]' an))=su o f g (i+1):=by
 apply abK;intro j;have e:(su o f g i).length=n:=zxu b c;rw[aaU]
 have a:∀ k,(aaA o (f.take k) (g.take k)).length=min k n:=fun k=>by simp[b,c]
 by_cases d:i=j
 ·subst d;simp only[if_true,e,h];rw[su,aam (by rw[a];omega)];simp[ab4,show i<f.length by omega,show i<g.length by omega]
 ·rw[if_neg d,su,su]
  by_cases l:j<i
  ·rw[aam (by rw[a];omega),aam (by rw[a];omega)];simp[ab4,l,show j<i+1 by omega]
  ·rw[aap (by rw[a];omega),aap (by rw[a];omega),a,a];simp only[abk]
   congr 1
   omega
end
def De{l:List Nat}{i x:Nat}(k:IntKind)(h:l[i]?=some x):((au k l).drop i).take 1=[.int k (x:Int)]:=by obtain⟨a,rfl⟩:=aal.1 h;exact sI k l i a
section
variable {α:Type} (H l:List α)
def la:(H++l)[H.length]?=l[0]?:=by rw[aap (aa3 _),abA]
def iq(k:Nat):(H++l)[H.length+k]?=l[k]?:=by rw[aap an,abS]
def zB(x:α):(H++l).set H.length x=H++l.set 0 x:=by rw[aay _ _ (aa3 _),abA]
def xq(k:Nat)(x:α):(H++l).set (H.length+k) x=H++l.set k x:=by rw[aay _ _ an,abS]
end
def ZH[ar G](fn:Nat)(cap:List V)(o:Nat->Nat->Nat)(f g:List Nat)(H:ae)(y:im H)(a:f.length=35)(b:g.length=35)(q:∀ n,H.length<=n->aX n cap=cap)
  (s:∀(i:Nat) (h:i<35) (r:ae),bA G (.F fn ([.int .u32 (f[i]'(by omega):Nat),.int .u32 (g[i]'(by omega):Nat)]++cap) (H++r) (.int .u32 (o (f[i]' an) (g[i]' an):Nat)) (H++r))) :
  bA G (.F 245 [.agg (au .u32 f),.agg (au .u32 g),.fn fn cap] H (.agg (au .u32 (aaA o f g))) (H++[some (.cells (au .u32 (aaA o f g))),some (.cells (au .u32 g)),some (.cells (au .u32 (aaA o f g)))])):=by
 refine ee ar.adX (aaa rfl) ?_;have c:∀ i,(su o f g i).length=35:=fun i=>zxu a b
 have z:∀ r,im (H++[some (.cells (au .u32 r)),some (.cells (au .u32 g)),some (.cells (au .u32 (aP 35)))]):=fun r=>y.app fun n=>by simp[aw.cl]
 have j:∀ r x,aj (H.length+3) (H++some (.cells (au .u32 r))::some (.cells (au .u32 g))::some (.cells (au .u32 (aP 35)))::x)=H++[some (.cells (au .u32 r)),some (.cells (au .u32 g)),some (.cells (au .u32 (aP 35)))]:=fun r x=>by
  have:=(z r).back x;simpa using this
 have A:=s 0 an;have t:((au .u32 f).drop 0).take 1=[.int .u32 (f[0]:Nat)]:=sI .u32 f 0 an;have d:((au .u32 g).drop 0).take 1=[.int .u32 (g[0]:Nat)]:=sI .u32 g 0 an;rw[ab5] at t d;have J:=fe (k:=.u32) a;have K:=fe (k:=.u32) b
 have u:V.int .u32 (o f[0] g[0]:Nat)::(au .u32 f).drop 1=au .u32 (su o f g 1):=by have v:=xO .u32 (su o f g 0) 0 (o f[0] g[0]) (by rw[c];omega);rw[zxv a b an,zCW] at v;simpa using v
 rw[aa8] at u;obtain⟨m,l⟩:∃ m:Nat->ae,∀ i,m i=H++[some (.cells (au .u32 (su o f g (i+1)))),some (.cells (au .u32 g)),some (.cells (au .u32 (aP 35)))]:=⟨_,fun _=>rfl⟩;simp[a,b,t,d];refine kj (A _) ir ?_;simp[j,a,u];refine aQ 34 (fun i=>[(2,.fn fn cap),(3,.ptr H.length 0),(4,.ptr (H.length+1) 0),(6,.ptr (H.length+2) 0),(15,.int .i64 i)]) m (fun _=>True) ?_ ?_
 ·simp[av,j,l,q]
 intro i hi _
 by_cases B:i<34
 ·have p:=zFy (o:=o) a b (show i+1<35 by omega);have C:g[i+1]?=some (g[i+1]' an):=kP an;have q1:=De .u32 p;have D:=De .u32 C;have e:=xO .u32 (su o f g (i+1)) (i+1) (o (f[i+1]' an) (g[i+1]' an)) (by rw[c];omega);rw[zxv a b an] at e;simp(disch:=omega)[bM,leFn,aC,la,iq,l,c,b,show 1+i=i+1 from abB 1 i,q1,D,-aab];refine kj (s (i+1) an [some (.cells (au .u32 (su o f g (i+1)))),some (.cells (au .u32 g)),some (.cells (au .u32 (aP 35)))]) (fun _=>by have:=j (su o f g (i+1)) [];simpa using this) ?_
  simp(disch:=omega)[bM,aC,la,l,B,c,show 1+i=i+1 from abB 1 i,e,-aab,j,bH,av,q]
 ·have E:i=34:=an
  subst E;have L:=c 35;have I:=zFx (o:=o) a b
  have w:(aaA o f g).length=35:=by simp[a,b]
  simp(disch:=omega)[leFn,la,iq,l,I,w,fe (k:=.u32) w]
def jV(f g:List Nat):List Nat:=aaA (fun a b=>(a+b)%4294967296) f g
def fD(f g:List Nat):List Nat:=aaA (fun a b=>(a+4294967296-b)%4294967296) f g
def eG(f:List Nat)(k:Nat):List Nat:=f.map fun a=>a*k%4294967296
def zFz[ar G](a b:Nat)(H:ae):bA G (.F 246 [.int .u32 a,.int .u32 b] H (.int .u32 ((a+b)%4294967296:Nat)) H):=by refine ee ar.adY (aaa rfl) ?_;simp;simp[aE,F8]
def zFA[ar G](a b:Nat)(c:b<4294967296)(H:ae):bA G (.F 248 [.int .u32 a,.int .u32 b] H (.int .u32 ((a+4294967296-b)%4294967296:Nat)) H):=by refine ee ar.ad0 (aaa rfl) ?_;simp;simp[c_,F8];omega
def zFB[ar G](a b k p:Nat)(H:ae)(c:H[p]?=some (some (.cells [.int .u32 k]))):bA G (.F 250 [.int .u32 a,.int .u32 b,.ptr p 0] H (.int .u32 (a*k%4294967296:Nat)) H):=by refine ee ar.ad2 (aaa rfl) ?_;simp[c];simp[eO,F8]
def zFC[ar G](f g:List Nat)(c:f.length=35)(d:g.length=35):FP G 247 [.agg (au .u32 f),.agg (au .u32 g)] (.agg (au .u32 (jV f g))):=by
 refine bD ar.adZ (aaa rfl) ?_;have o:=fe (k:=.u32) c;have p:=fe (k:=.u32) d
 have j:(jV f g).length=35:=by simp[jV,c,d]
 have q:=fe (k:=.u32) j
 have l:im [some (.cells (au .u32 f)),some (.cells (au .u32 g)),some (.cells (au .u32 (aP 35)))]:=fun n _=>by simp[aw.cl]
 have m:=l.back;simp at m;simp[c,d,o,p];refine yY (ZH 246 [] (fun a b=>(a+b)%4294967296) f g _ l c d (fun _ _=>rfl) (fun i h r=>zFz _ _ _)) ?_;have e:aaA (fun a b=>(a+b)%4294967296) f g=jV f g:=rfl;simp[e,m,j,q]
def ZI[ar G](f g:List Nat)(c:f.length=35)(d:g.length=35)(o:∀ x∈g,x<4294967296):FP G 249 [.agg (au .u32 f),.agg (au .u32 g)] (.agg (au .u32 (fD f g))):=by
 refine bD ar.ad1 (aaa rfl) ?_;have p:=fe (k:=.u32) c;have q:=fe (k:=.u32) d
 have j:(fD f g).length=35:=by simp[fD,c,d]
 have s:=fe (k:=.u32) j
 have l:im [some (.cells (au .u32 f)),some (.cells (au .u32 g)),some (.cells (au .u32 (aP 35)))]:=fun n _=>by simp[aw.cl]
 have m:=l.back;simp at m;simp[c,d,p,q];refine yY (ZH 248 [] (fun a b=>(a+4294967296-b)%4294967296) f g _ l c d (fun _ _=>rfl) (fun i h r=>zFA _ _ (o _ (aaE _)) _)) ?_;have e:aaA (fun a b=>(a+4294967296-b)%4294967296) f g=fD f g:=rfl;simp[e,m,j,s]
def SR[ar G](f:List Nat)(k:Nat)(b:f.length=35):FP G 251 [.agg (au .u32 f),.int .u32 k] (.agg (au .u32 (eG f k))):=by
 refine bD ar.ad3 (aaa rfl) ?_;have j:=fe (k:=.u32) b
 have c:(eG f k).length=35:=by simp[eG,b]
 have l:=fe (k:=.u32) c
 have d:im [some (.cells (au .u32 f)),some (.cells [.int .u32 k]),some (.cells (au .u32 (aP 35)))]:=fun n _=>by simp[aw.cl]
 have g:=d.back;simp at g;simp[b,j];refine yY (ZH 250 [.ptr 1 0] (fun a _=>a*k%4294967296) f f _ d b b (fun n m=>by simp at m;simp[aX,V.cl,show 1<n by omega]) (fun i h r=>zFB _ _ k 1 _ ir)) ?_;have e:f.map (fun a=>a*k%4294967296)=eG f k:=rfl;simp[e,g,c,l]
def oT(f:List Nat):Option Nat:=if f.drop 1=aP 34 then f.head? else none
def SU[ar G](f:List Nat)(i:f.length=35):FP G 253 [.agg (au .u32 f)] (.a_ [.int .u32 ((oT f).getD 0:Nat),.bool (oT f).isSome]):=by
 refine bD ar.ad5 (aaa rfl) ?_
 obtain⟨c,t,rfl⟩:∃ c t,f=c::t:=by cases f with|nil=>simp at i|cons c t=>exact⟨c,t,rfl⟩
 have d:t.length=34:=by simpa using i
 have j:au .u32 (c::t)=.int .u32 (c:Int)::au .u32 t:=rfl;have g:=Ix .u32 (n:=34) (a:=t) (b:=aP 34) d ir;have l:=fe (k:=.u32) d
 by_cases e:t=aP 34
 ·have h:oT (c::t)=some c:=by simp[oT,e]
  rw[decide_eq_true e] at g;simp[-aad,j,d,l,g,h]
 ·have h:oT (c::t)=none:=by simp[oT,e]
  rw[decide_eq_false e] at g;simp[-aad,j,d,l,g,h]
def xu(f v:List Nat)(i:Nat):Nat:=((aaA (·*·) (f.drop 1) v).take i).sum
def jY(f v:List Nat):Nat:=(f.headD 0+xu f v 34)%4294967296
def zCX[ar G](f v:List Nat)(g:f.length=35)(j:v.length=34)(b:∀ x∈f,x<4294967296):FP G 252 [.agg (au .u32 f),.agg (au .u32 v)] (.int .u32 (jY f v:Nat)):=by
 refine bD ar.ad4 (aaa rfl) ?_
 obtain⟨c,t,rfl⟩:∃ c t,f=c::t:=by cases f with|nil=>simp at g|cons c t=>exact⟨c,t,rfl⟩
 have d:t.length=34:=by simpa using g
 have n:au .u32 (c::t)=.int .u32 (c:Int)::au .u32 t:=rfl;have o:=fe (k:=.u32) d;have u:=fe (k:=.u32) j;have w:c<4294967296:=b c ir;simp[n,d,o];obtain⟨S,a⟩:∃ S:Nat->Nat,∀ i,S i=(c+xu (c::t) v i)%4294967296:=⟨_,fun _=>rfl⟩
 have p:S 0=c:=by rw[a];simp[xu];omega
 have e:S 34=jY (c::t) v:=by rw[a];rfl
 have q:∀(i:Nat) (h:i<34),(S i+(t[i]' an)*(v[i]' an))%4294967296=S (i+1):=fun i h=>by
  rw[a,a,xu,xu,aaI,aae (by simp;omega)];simp;omega
 refine aQ 34 (fun i=>[(3,.ptr 1 0),(5,.int .u32 (S i:Nat)),(11,.agg (au .u32 t)),(12,.int .i64 i)]) (fun _=>[some (.cells (.int .u32 (c:Int)::au .u32 t)),some (.cells (au .u32 v))]) (fun _=>True) ?_ ?_
 ·simp[av,p,aj,aX,V.cl]
 intro i hi _
 by_cases l:i<34
 ·have q1:=De .u32 (kP (show i<t.length by omega));have r:=De .u32 (kP (show i<v.length by omega))
  have m:aE .u32 (S i:Int) (eO .u32 (t[i]:Nat) (v[i]:Nat))=((S (i+1):Nat):Int):=by rw[<-q i l];simp[aE,eO,F8]
  simp(disch:=omega)[bM,leFn,aC,l,d,j,q1,r,m,-aab,bH,av,aj,aX,V.cl]
 ·have s:i=34:=an
  subst s;simp[e]
def nD(f:List Nat):Option Nat:=(ab6 34).find? fun i=>decide (f=cG i)
def zFD[ar G](f:List Nat)(p:f.length=35):FP G 254 [.agg (au .u32 f)] (.a_ [.int .i64 ((nD f).getD 0:Nat),.bool (nD f).isSome]):=by
 refine bD ar.ad6 (aaa rfl) ?_
 obtain⟨c,t,rfl⟩:∃ c t,f=c::t:=by cases f with|nil=>simp at p|cons c t=>exact⟨c,t,rfl⟩
 have g:t.length=34:=by simpa using p
 have s:au .u32 (c::t)=.int .u32 (c:Int)::au .u32 t:=rfl;have x:=fe (k:=.u32) g;have u:=fe (k:=.u32) p;rw[s] at u;have D:(aaF 35 Kd.int)=Kd.int::aaF 34 .int:=rfl;simp[-aad,s,g,x];refine aQ 34 (fun i=>[(1,.ptr 0 0),(9,.agg (au .u32 t)),(10,.int .i64 i)]) (fun _=>[some (.cells (.int .u32 (c:Int)::au .u32 t))]) (fun i=>∀ j,j<i->c::t≠cG j) ?_ ?_
 ·simp[av,aj,aX,V.cl]
 intro i hi q
 by_cases r:i<34
 ·have q1:=De .u32 (kP (show i<t.length by omega));have hd:(au .u32 (aP 35)).drop 35=[]:=rfl
  have l:(cG i).length=35:=by simp[cG]
  have w:=fe (k:=.u32) l;have m:=Ix .u32 (n:=35) (a:=cG i) (b:=c::t) l p;rw[s] at m
  have y:c::t=cG i->t[i]=1:=fun e=>by
   have d:(c::t)[i+1]?=some 1:=by rw[e,cG,List.getElem?_set_self (by simp;omega)]
   rw[abU,kP an] at d;exact abE.inj d
  simp(disch:=omega)[-aad,bM,aC,g,q1];refine ax (YW i r) ?_
  by_cases d:t[i]=1
  ·by_cases e:cG i=c::t
   ·have z:nD (c::t)=some i:=by rw[nD,List.find?_range_eq_some];exact⟨by simpa using e.symm,abr.2 r,fun j o=>by simpa using q j o⟩
    rw[decide_eq_true e] at m;simp(disch:=omega)[-aad,leFn,g,l,w,u,hd,d,m,z]
   ·rw[decide_eq_false e] at m
    have v:∀ j,j<i+1->c::t≠cG j:=fun j o=>by
     by_cases e':j=i
     ·subst e';exact fun h=>e h.symm
     ·exact q j an
    simp(disch:=omega)[-aad,leFn,r,g,l,w,u,hd,d,m,-aab,bH,av,aj,aX,V.cl];exact v
  ·have v:∀ j,j<i+1->c::t≠cG j:=fun j o=>by
    by_cases e':j=i
    ·subst e';exact fun h=>d (y h)
    ·exact q j an
   have A:((t[i]:Int)==1)=false:=by rw[beq_eq_false_iff_ne];omega
   simp(disch:=omega)[-aad,r,l,hd,A,-aab,bH,av,aj,aX,V.cl];exact v
 ·have B:i=34:=an
  subst B
  have C:nD (c::t)=none:=by rw[nD,List.find?_eq_none];intro j o;simpa using q j (abr.1 o)
  simp[C]
open Go Go.RowKit
variable {G:aM}
def zLU(b:bG G){kind:Int}{fv gv vs:List Int}{ft gt tab:List Nat}(a:pb kind fv gv ft gt)(c:∀ w∈ft,w<4294967296)(d:∀ w∈gt,w<4294967296)(e:Right vs tab)
  (f:∀ p,dq vs tab p=(dm kind (dq fv ft p) (dq gv gt p)).1):FP G 109 [.int .i64 kind,FV fv ft,FV gv gt] (.a_ [FV vs tab,.bool true]):=by
 have g:=a.2.1.1;have i:=a.2.2.1.1;have m:=Ch g a.2.1.2.1;have n:=Ch i a.2.2.1.2.1;obtain⟨r,j,h|⟨_,o,q,rfl,k,_,l⟩⟩:=zEp b kind fv gv ft gt an an an an c d
 ·exact absurd a h.1
 ·obtain⟨rfl,rfl⟩:=zEo k e fun p=>by rw[f,l]
  exact j
def zHb(vs:List Int)(tab:List Nat)(r:Int->Nat):val vs tab r<4294967296:=wv _ 32
def zAQ{kind:Int}{fv gv vs:List Int}{ft gt tab:List Nat}(h:kind=68\/kind=84\/kind=164)(a:∀ p,dq vs tab p=(dm kind (dq fv ft p) (dq gv gt p)).1)(r:Int->Nat) :
  val vs tab r=(dm kind (val fv ft r) (val gv gt r)).1:=by
 refine ab7 fun i=>?_
 have b:∀(v:List Int) (t:List Nat),(val v t r).testBit i=(decide (i<32)&&(dq v t fun u=>(r u).testBit i).testBit i):=fun v t=>by rw[val,Bv]
 rcases h with rfl|rfl|rfl<;>simp only[dm] at a |-<;>simp at a |-<;>(rw[b,a];simp[b];try (cases decide (i<32)<;>simp))
variable {H:ae} {b z m:Nat} {L:List Nd}
def zCY{f:List Nat}(a:f.length=35):(eZ f).ok:=⟨a,rfl,rfl⟩
def ba(L:List Nd)(a:Nd):Int×List Nd:=((L.idxOf a:Nat),iS L a)
def BF(G:aM)(f:Nat)(args:List V)(H:ae)(b z m:Nat)(p:Int×List Nd):Prop:=SF G f (.ptr b 0::args) H (.int .i64 p.1) (dC H b z m p.2)
def CJ[aK G](f:List Nat)(a:f.length=35)(h:Bk H b z m L)(c:L.length<1000000):BF G 260 [.agg (au .u32 f)] H b z m (ba L (eZ f)):=by
 have d:=fe (k:=.u32) a
 have e:Bk (H++[some (.cells (au .u32 f))]) b z m L:=h.app fun n=>by simp[aw.cl]
 have g:=h.cf [some (.cells (au .u32 f))] (iS L (eZ f));have i:=h.back (iS L (eZ f)) [some (.cells (au .u32 f))];refine ke aK.aea (aaa rfl) ?_;simp[-aad,a,d,-oh,nz,zCR f a,leFn];refine cL (K3 (eZ f) (zCY a) e c) ?_;simp[ba,g,i]
def Lf[ar G][aK G](c:Nat)(h:Bk H b z m L)(d:L.length<1000000):BF G 262 [.int .u32 c] H b z m (ba L (eZ (c::aP 34))):=by have a:=h.back (iS L (eZ (c::aP 34))) [];refine ke aK.aec (aaa rfl) ?_;simp at a;simp;refine ax (YV c) ?_;simp;refine cL (CJ (c::aP 34) ir h d) ?_;simp[ba,a]
def lE(L:List Nd)(i:Int):Int×List Nd:=if 0<=i/\i<34 then ba L (eZ (cG i.toNat)) else(-1,L)
def zxw[ar G][aK G](i:Int)(h:Bk H b z m L)(f:L.length<1000000):BF G 263 [.int .i64 i] H b z m (lE L i):=by
 refine ke aK.aed (aaa rfl) ?_;have hd:(au .u32 (aP 35)).drop 35=[]:=rfl
 by_cases hi:i<0\/34<=i
 ·have a:lE L i=(-1,L):=by rw[lE,if_neg an]
  have c:=h.shut.back;simp[a,h.fW];refine ax (zAJ i hi) ?_;simp[hd,c]
 ·obtain⟨n,rfl⟩:=aat (show 0<=i by omega)
  have a:lE L n=ba L (eZ (cG n)):=by rw[lE,if_pos an];rfl
  have d:(cG n).length=35:=by simp[cG]
  have g:=fe (k:=.u32) d
  have e:Bk (H++[some (.cells (au .u32 (cG n)))]) b z m L:=h.app fun n=>by simp[aw.cl]
  have j:=h.cf [some (.cells (au .u32 (cG n)))] (iS L (eZ (cG n)));have c:=h.back (iS L (eZ (cG n))) [some (.cells (au .u32 (cG n)))];have l:=e.shut.self;simp at l;simp[a];refine ax (YW n an) ?_;simp[hd,d,g];refine cL (CJ (cG n) d e f) ?_;simp[ba,j,c]
def u4(fv:List Int)(ft:List Nat):Nd:={ sj with kind:=1,n:=fv.length,vars:=fv.map abl++aP (4-fv.length),tab:=ft++aP (16-ft.length) }
def ones:Nat:=4294967295
def th(L:List Nd)(fv:List Int)(ft:List Nat):Int×List Nd :=
 match fv with
 | []=>ba L (eZ (ft.headD 0::aP 34))
 | [i]=>if ft=[0,ones] then ba L (eZ (cG i.toNat)) else if ft=[ones,0] then ba L (eZ (fD (ones::aP 34) (cG i.toNat))) else ba L (u4 [i] ft)
 | fv=>ba L (u4 fv ft)
def zCZ[ar G][aK G](fv:List Int)(ft:List Nat)(hR:Right fv ft)(h:Bk H b z m L)(J:L.length<1000000):BF G 261 [FV fv ft] H b z m (th L fv ft):=by
 refine ke aK.aeb (aaa rfl) ?_
 have K:Bk (H++[some (.cells [.vs (ints .i64 fv) .no,.vs (ak .u32 ft) .no])]) b z m L:=h.app fun n=>by simp[aw.cl,aX,V.cl]
 obtain⟨Z,d,hm⟩:=hR
 match fv,Z,d,hm,K with
 | [],_,d,_,K => 
  obtain⟨c,rfl⟩:∃ c,ft=[c]:=by match ft,d with|[c],_=>exact⟨c,rfl⟩
  have g:=h.cf [some (.cells [.vs (ints .i64 []) .no,.vs (ak .u32 [c]) .no])] (iS L (eZ (c::aP 34)));have o:=h.back (iS L (eZ (c::aP 34))) [some (.cells [.vs (ints .i64 []) .no,.vs (ak .u32 [c]) .no])];have hn:∀ x:Nat,ak .u32 [x]=[[.int .u32 (x:Int)]]:=fun _=>rfl;simp only[hn,zCu] at K g o;have fH:=K.shut.self;simp at fH;simp[FV,th,aC,leFn,hn];refine cL (Lf c K J) ?_
  simp[ba,g,o]
 | i::t,Z,d,hm,K => 
  have ai:t.length+1<=4:=by simpa using Z
  have hb:∀ v∈t,0<=v:=fun v A=>by
   obtain⟨j,hj,rfl⟩:=acg A;obtain⟨w,hw,Dr,_⟩:=hm (j+1) (by simp;omega);rw[abU,aae hj] at hw;cases hw;exact Dr
  obtain⟨v,A,RK,ZJ,_⟩:=hm 0 ir
  obtain rfl:i=v:=by simpa using A
  obtain⟨n,rfl⟩:=aat RK;have hd:(au .u32 (aP 35)).drop 35=[]:=rfl
  have s:(cG n).length=35:=by simp[cG]
  have ht:=fe (k:=.u32) s
  obtain⟨p,q,r,rfl⟩:∃ p q r,ft=p::q::r:=by
   match ft,d with
   | p::q::r,_=>exact⟨p,q,r,rfl⟩
   | [p],d=>exfalso;have:=ack (n:=t.length);simp[acE] at d;omega
   | [],d=>exfalso;have:=ack (n:=t.length);simp[acE] at d;omega
  have h2:Bk (H++[some (.cells [.vs (ints .i64 ((n:Int)::t)) .no,.vs (ak .u32 (p::q::r)) .no]),some (.cells (au .u32 (cG n)))]) b z m L:=h.app fun n=>by simp[aw.cl,aX,V.cl]
  have ZK:=K.shut.self;have IG:=h2.shut.self;simp at ZK IG;simp(disch:=omega)[FV,aO,la,aC,leFn];refine ax (YW n an) ?_
  have cs:(t=[]/\p=0/\q=ones)\/(t=[]/\p=ones/\q=0)\/(t≠[]\/t=[]/\p≠0/\p≠ones\/t=[]/\p=0/\q≠ones\/t=[]/\p=ones/\q≠0):=by
   by_cases e1:t=[]
   ·simp only[e1,true_and,ne_eq,not_true,false_or,ones];omega
   ·exact .inr (.inr (.inl e1))
  rcases cs with⟨rfl,rfl,rfl⟩|⟨rfl,rfl,rfl⟩|cs
  ·obtain rfl:r=[]:=by simpa using d
   have g:=h.cf [some (.cells [.vs (ints .i64 [(n:Int)]) .no,.vs (ak .u32 [0,ones]) .no]),some (.cells (au .u32 (cG n)))] (iS L (eZ (cG n)));have o:=h.back (iS L (eZ (cG n))) [some (.cells [.vs (ints .i64 [(n:Int)]) .no,.vs (ak .u32 [0,ones]) .no]),some (.cells (au .u32 (cG n)))];have Q:=h2;simp[ones,ak] at g o Q;simp(disch:=omega)[ones,ak,la,iq,aC,leFn,hd,ht,s];refine cL (CJ (cG n) s Q J) ?_
   simp[ba,g,o,th,ones]
  ·obtain rfl:r=[]:=by simpa using d
   have Es:(fD (ones::aP 34) (cG n)).length=35:=by simp[fD,s]
   have g:=h.cf [some (.cells [.vs (ints .i64 [(n:Int)]) .no,.vs (ak .u32 [ones,0]) .no]),some (.cells (au .u32 (cG n)))] (iS L (eZ (fD (ones::aP 34) (cG n))));have o:=h.back (iS L (eZ (fD (ones::aP 34) (cG n)))) [some (.cells [.vs (ints .i64 [(n:Int)]) .no,.vs (ak .u32 [ones,0]) .no]),some (.cells (au .u32 (cG n)))];have Q:=h2
   have rU:∀ x∈cG n,x<4294967296:=fun x M=>by
    rw[cG] at M
    rcases abh M with M|rfl
    ·rw[aP,abm] at M;omega
    ·omega
   simp[ones,ak] at g o Q Es;simp(disch:=omega)[ones,ak,aO,la,iq,aC,leFn,hd,s];refine ax (YV 4294967295) ?_;simp(disch:=omega)[iq,leFn,ht,s];refine ax (ZI (4294967295::aP 34) (cG n) ir s rU) ?_;simp;refine cL (CJ _ Es Q J) ?_;simp[ba,g,o,th,ones]
  ·have X3:th L ((n:Int)::t) (p::q::r)=ba L (u4 ((n:Int)::t) (p::q::r)):=by
    cases t with
    | cons _ _=>rfl
    | nil =>
     obtain rfl:r=[]:=by simpa using d
     simp only[th];rw[if_neg,if_neg]
     ·intro e;simp at e;simp at cs;omega
     ·intro e;simp at e;simp at cs;omega
   obtain⟨a,ha⟩:∃ a,a=u4 ((n:Int)::t) (p::q::r):=⟨_,rfl⟩
   have u:(p::q::r).length<=16:=by rw[d];exact abd (n:=2) (by decide) Z
   have R:a.ok:=by
    rw[ha];refine⟨rfl,?_,?_⟩
    ·simp[u4];omega
    ·simp[u4] at u |-;omega
   have Vt:(au .u32 (aP 35)).length=35:=by simp
   obtain⟨a1,F⟩:∃ a1:Nd,a1={ sj with kind:=1,n:=t.length+1 }:=⟨_,rfl⟩;obtain⟨a2,jA⟩:∃ a2:Nd,a2={ a1 with vars:=((n:Int)::t).map abl++aP (4-(t.length+1)) }:=⟨_,rfl⟩
   have hf:a={ a2 with tab:=p::q::r++aP (16-(r.length+2)) }:=by rw[ha,jA,F];rfl
   have ti:∀ r:List (Nat×V),oh (ib ((66,.int .i64 ((t.length:Int)+1))::r)) sj.cs [(0,1,.c (.int .i64 1)),(36,1,.t 66)]=some a1.cs:=fun r=>by
    have he:(ib ((66,.int .i64 ((t.length:Int)+1))::r)) 66=.int .i64 ((t.length:Int)+1):=by simp
    have hd:∀ r:List V,(au .u32 (aP 35)++r).drop 36=r.drop 1:=fun r=>by rw[show 36=(au .u32 (aP 35)).length+1 by simp,List.drop_append];simp
    simp[oh,sj,Nd.cs,F,hd]
   have mg:a1.cs.length=60:=Nd.len (by rw[F];exact⟨rfl,rfl,rfl⟩);have BN:a1.cs.take 60=a1.cs:=aaq an;have rC:sj.cs.length=60:=rfl;have uG:sj.cs.drop 60=[]:=rfl;obtain⟨O,S⟩:∃ O,O=t.length+1:=⟨_,rfl⟩;obtain⟨P,oF⟩:∃ P,P=r.length+2:=⟨_,rfl⟩
   have hg:∀ l:List Int,((ints .i64 l).map abF).sum=l.length:=fun l=>by induction l with
    | nil=>rfl
    | cons x l I=>simp only[DX,aa9,aca,I,aaW,acA];omega
   have hh:∀ l:List Nat,((ak .u32 l).map abF).sum=l.length:=fun l=>by rw[X8,ints,acp];induction l with
    | nil=>rfl
    | cons x l I=>simp only[aa9,aca,acp] at I |-;rw[I];simp;omega
   have hk:min ((ints .i64 ((n:Int)::t)).map abF).sum 4=O:=by rw[hg];simp;omega
   have ZL:min ((ak .u32 (p::q::r)).map abF).sum 16=P:=by rw[hh];simp at u |-;omega
   have tO:(ints .i64 ((n:Int)::t)).flatten=au .i64 (((n:Int)::t).map abl):=by
    have:∀ l:List Int,(∀ v∈l,0<=v)->(ints .i64 l).flatten=au .i64 (l.map abl):=fun l=>by
     induction l with
     | nil=>intro _;rfl
     | cons x l I =>
      intro M;rw[DX,acu,I (fun v A=>M v (by simp[A]))];have:=M x ir;simp[au];omega
    exact this _ fun v A=>by rcases aa_.1 A with rfl|A;omega;exact hb v A
   have T:(ak .u32 (p::q::r)).flatten=au .u32 (p::q::r):=by
    have:∀ l:List Nat,(ak .u32 l).flatten=au .u32 l:=fun l=>by
     induction l with
     | nil=>rfl
     | cons x l I=>rw[zs0,acu,I];rfl
    exact this _
   have B:(au .i64 (((n:Int)::t).map abl)).take O=au .i64 (((n:Int)::t).map abl):=aaq (by simp;omega);have C:(au .u32 (p::q::r)).take P=au .u32 (p::q::r):=aaq (by simp;omega)
   have U:∀ c:Nd,c.ok->c.cs.take 37=.int .i64 (c.kind:Int)::(au .u32 c.f++[.int .i64 (c.n:Int)])/\c.cs.drop 37=au .i64 c.vars++(au .u32 c.tab++[.int .i64 c.op,.int .i64 (c.x:Int),.int .i64 (c.y:Int)]):=fun c hc=>by
    have e:c.cs=(.int .i64 (c.kind:Int)::(au .u32 c.f++[.int .i64 (c.n:Int)]))++(au .i64 c.vars++(au .u32 c.tab++[.int .i64 c.op,.int .i64 (c.x:Int),.int .i64 (c.y:Int)])):=by simp[Nd.cs]
    have d:(V.int .i64 (c.kind:Int)::(au .u32 c.f++[.int .i64 (c.n:Int)])).length=37:=by simp[hc.1]
    rw[e];exact⟨aaK d,aaZ d⟩
   have W:∀ c:Nd,c.ok->c.cs.take 41=.int .i64 (c.kind:Int)::(au .u32 c.f++.int .i64 (c.n:Int)::au .i64 c.vars)/\c.cs.drop 41=au .u32 c.tab++[.int .i64 c.op,.int .i64 (c.x:Int),.int .i64 (c.y:Int)]:=fun c hc=>by
    have e:c.cs=(.int .i64 (c.kind:Int)::(au .u32 c.f++.int .i64 (c.n:Int)::au .i64 c.vars))++(au .u32 c.tab++[.int .i64 c.op,.int .i64 (c.x:Int),.int .i64 (c.y:Int)]):=by simp[Nd.cs]
    have d:(V.int .i64 (c.kind:Int)::(au .u32 c.f++.int .i64 (c.n:Int)::au .i64 c.vars)).length=41:=by simp[hc.1,hc.2.1]
    rw[e];exact⟨aaK d,aaZ d⟩
   have OP:a1.ok:=by rw[F];exact⟨rfl,rfl,rfl⟩
   have IH:a2.ok:=by rw[jA,F];refine⟨rfl,?_,rfl⟩;simp;omega
   have dz:∀(k:IntKind) (n j:Nat) (r:List V),j<=n->(au k (aP n)++r).drop j=au k (aP (n-j))++r:=fun k n j r h=>by
    rw[abc (by simp;exact h),au,<-acC,aP,List.drop_replicate];rfl
   have D:a1.cs.take 37++(au .i64 (((n:Int)::t).map abl)++a1.cs.drop (37+O))=a2.cs:=by rw[<-aaQ,(U a1 OP).1,(U a1 OP).2,show a1.vars=aP 4 by rw[F];rfl,dz .i64 4 O _ an,jA,S];simp[Nd.cs,F,au]
   have E:a2.cs.take 41++(au .u32 (p::q::r)++a2.cs.drop (41+P))=a.cs:=by rw[<-aaQ,(W a2 IH).1,(W a2 IH).2,show a2.tab=aP 16 by rw[jA,F];rfl,dz .u32 16 P _ (by simp at u;omega),hf,oF];simp[Nd.cs,au]
   have yQ:=Nd.len R;have Eu:=Nd.len IH;have Cp:a.cs.take 60=a.cs:=aaq an
   have DI:∀(c:Nd) (n:Nat),aX n c.cs=c.cs:=fun c n=>by rw[ia];simp[Nd.cs,au,aaJ,V.cl]
   have N:Bk (H++[some (.cells [.vs (ints .i64 ((n:Int)::t)) .no,.vs (ak .u32 (p::q::r)) .no]),some (.cells (au .u32 (cG n))),some (.cells a.cs)]) b z m L:=h.app fun n=>by simp[aw.cl,DI,aX,V.cl]
   have g:=h.cf [some (.cells [.vs (ints .i64 ((n:Int)::t)) .no,.vs (ak .u32 (p::q::r)) .no]),some (.cells (au .u32 (cG n))),some (.cells a.cs)] (iS L a);have o:=h.back (iS L a) [some (.cells [.vs (ints .i64 ((n:Int)::t)) .no,.vs (ak .u32 (p::q::r)) .no]),some (.cells (au .u32 (cG n))),some (.cells a.cs)];rw[X3,<-ha];rw[S] at D B;rw[oF] at E C;rw[show r.length+2=r.length+1+1 from rfl] at E C
   simp only[aa9,aa0] at D B
   rcases cs with cs|⟨rfl,cs,gG⟩|⟨rfl,rfl,cs⟩|⟨rfl,rfl,cs⟩
   ·have gE:0<t.length:=ace.2 cs;simp(disch:=omega)[-oh,nz,aO,la,iq,aC,leFn,hd,s,ti,mg,rC,uG,tO,T,B,C,D,E,yQ,Eu,Cp];refine cL (K3 a R N J) ?_;simp[ba,g,o]
   ·have Q2:((p:Int)==0)=false:=aO an;have X:((p:Int)==4294967295)=false:=aO (by rw[ones] at gG;omega);have Y:∀ r,oh (ib ((66,.int .i64 1)::r)) sj.cs [(0,1,.c (.int .i64 1)),(36,1,.t 66)]=some a1.cs:=fun r=>ti r;simp at D B E C N g o;simp(disch:=omega)[Q2,X,Y,-oh,nz,la,iq,aC,leFn,hd,s,mg,rC,uG,tO,T,B,C,D,E,yQ,Eu,Cp];refine cL (K3 a R N J) ?_;simp[ba,g,o]
   ·have X:((q:Int)==4294967295)=false:=aO (by rw[ones] at cs;omega);have Y:∀ r,oh (ib ((66,.int .i64 1)::r)) sj.cs [(0,1,.c (.int .i64 1)),(36,1,.t 66)]=some a1.cs:=fun r=>ti r;simp at D B E C N g o;simp(disch:=omega)[X,Y,-oh,nz,aO,la,iq,aC,leFn,hd,s,mg,rC,uG,tO,T,B,C,D,E,yQ,Eu,Cp];refine cL (K3 a R N J) ?_;simp[ba,g,o]
   ·have X:((q:Int)==0)=false:=aO an;have Y:∀ r,oh (ib ((66,.int .i64 1)::r)) sj.cs [(0,1,.c (.int .i64 1)),(36,1,.t 66)]=some a1.cs:=fun r=>ti r;simp[ones] at D B E C N g o;simp only[ones] at ZL T;simp(disch:=omega)[ones,X,Y,-oh,nz,aO,la,iq,aC,leFn,hd,s,mg,rC,uG,tO,T,B,C,D,E,yQ,Eu,Cp];refine cL (K3 a R N J) ?_;simp[ba,g,o]
def gg(a:Nd):Option (List Int×List Nat) :=
 if a.kind=1 then some ((a.vars.take a.n).map fun(x:Nat)=>(x:Int),a.tab.take (2^a.n))
 else if a.kind=0 then(match oT a.f with
  | some c=>some ([],[c])
  | none=>match nD a.f with
   | some i=>some ([(i:Int)],[0,ones])
   | none=>match nD (fD (ones::aP 34) a.f) with
    | some i=>some ([(i:Int)],[ones,0])
    | none=>none)
 else none
def sv(o:Option (List Int×List Nat)):V:=match o with
 | some p=>.a_ [FV p.1 p.2,.bool true]
 | none=>.a_ [.agg [.vs [] .full,.vs [] .full],.bool false]
def ZM(k:IntKind)(r:List V):∀(n:Nat) (l:List Nat),n<=l.length->pE 1 n (au k l++r)=ak k (l.take n)
 | 0,_,_=>by simp[pE]
 | n+1,[],h=>by simp at h
 | n+1,x::l,h=>by
  have a:=ZM k r n l (by simpa using h);simp only[au,aa9,aaL,pE,ach,zs0];rw[show(V.int k (x:Int)::((l.map fun(x:Nat)=>V.int k (x:Int))++r)).drop 1=au k l++r from rfl,a];rfl
def Nd.lD(n:Nat)(c:Nd):aX n c.cs=c.cs:=by rw[ia];simp[Nd.cs,au,aaJ,V.cl]
def ZN(i:Nat)(hi:i<34):Right [(i:Int)] [0,ones]/\Right [(i:Int)] [ones,0]:=by
 constructor
 all_goals
  refine⟨ir,ir,fun j a=>?_⟩
  obtain rfl:j=0:=by simpa using a
  exact⟨_,rfl,an,an,fun u h=>absurd h an,by decide⟩
def zC0[bG G](i:Nat)(hi:i<34):FP G 109 [.int .i64 164,FV [(i:Int)] [0,ones],FV [] [ones]] (.a_ [FV [(i:Int)] [ones,0],.bool true]):=by
 obtain⟨a,b⟩:=ZN i hi;have c:Right [] [ones]:=⟨ir,ir,fun j d=>by simp at d⟩
 exact zLU (by infer_instance) ⟨by decide,a,c,by simp[fw]⟩ (by simp[ones]) (by simp[ones]) b fun p=>by cases h:p (i:Int)<;>simp[dq,idx,h,dm,ones]
def zAR[ar G][bG G][aK G](x:Nat)(a:Nd)(h:Bk H b z m L)(A:L[x]?=some a)(hn:a.kind=1->a.n<=4)(B:∀ c∈a.f,c<4294967296):SF G 265 [.ptr b 0,.int .i64 x] H (sv (gg a)) H:=by
 refine ke aK.aef (aaa rfl) ?_;have Y:=h.lb;have hb:=h.cS
 have P:∀ r:ae,(H++r)[b]?=some (some (.cells [.vs (sm L) (.own z),.mp m])):=fun r=>by rw[aam Y];exact hb
 have Q:=YZ A;have l:=h.ok a (aau A);have q:=Nd.len l;have R:a.cs.take 60=a.cs:=aaq an;have S:sj.cs.drop 60=[]:=rfl;have T:sj.cs.length=60:=rfl;have u:=h.shut.back;have g0:a.cs.head?=some (.int .i64 (a.kind:Int)):=rfl;have U:a.cs.take 1=[.int .i64 (a.kind:Int)]:=rfl
 have Z:a.cs=(.int .i64 (a.kind:Int)::au .u32 a.f)++(.int .i64 (a.n:Int)::(au .i64 a.vars++(au .u32 a.tab++[.int .i64 a.op,.int .i64 (a.x:Int),.int .i64 (a.y:Int)]))):=by simp[Nd.cs]
 have ha:(V.int .i64 (a.kind:Int)::au .u32 a.f).length=36:=by simp[l.1]
 have C:a.cs.drop 36=.int .i64 (a.n:Int)::(au .i64 a.vars++(au .u32 a.tab++[.int .i64 a.op,.int .i64 (a.x:Int),.int .i64 (a.y:Int)])):=by rw[Z];exact aaZ ha
 have D:a.cs.drop 37=au .i64 a.vars++(au .u32 a.tab++[.int .i64 a.op,.int .i64 (a.x:Int),.int .i64 (a.y:Int)]):=by rw[show 37=36+1 from rfl,<-aaQ,C];rfl
 have he:a.cs.drop 41=au .u32 a.tab++[.int .i64 a.op,.int .i64 (a.x:Int),.int .i64 (a.y:Int)]:=by rw[show 41=37+4 from rfl,<-aaQ,D];exact aaZ (by simp[l.2.1])
 have hf:(a.cs.drop 36).take 1=[.int .i64 (a.n:Int)]:=by rw[C];rfl
 have hh:(a.cs.drop 1).take 35=au .u32 a.f:=by show(au .u32 a.f++_).take 35=_;rw[aaK (by simp[l.1])]
 have E:a.cs.tail.take 35=au .u32 a.f:=by rw[<-aa8];exact hh
 have mX:(H.length=b)=False:=eq_false an;have hq:(b=H.length)=False:=eq_false an
 by_cases s:a.kind=1
 ·have F:((a.kind:Int)==1)=true:=DZ an;have I:=hn s;have ZO:((a.n:Int)<=4)=True:=eq_true an;have OQ:2^a.n<=16:=abd (n:=2) (by decide) I;obtain⟨w,B⟩:∃ w,w=2^a.n:=⟨_,rfl⟩
  have fH:jc .i64 1 (a.n:Int)=(w:Int):=by rw[B];exact vE an
  rw[<-B] at OQ;have vd:((a.n:Int)<0)=False:=eq_false an
  have oa:a.cs.all V.pure=true:=by simp[Nd.cs,au,V.pure]
  have zf:pE 1 a.n (a.cs.drop 37)=ints .i64 ((a.vars.take a.n).map fun(x:Nat)=>(x:Int)):=by rw[D,ZM _ _ _ _ (by rw[l.2.1];exact I),X8];rfl
  have tJ:pE 1 w (a.cs.drop 41)=ak .u32 (a.tab.take w):=by rw[he,ZM _ _ _ _ (by rw[l.2.2];exact OQ)]
  have o:gg a=some ((a.vars.take a.n).map fun(x:Nat)=>(x:Int),a.tab.take w):=by rw[gg,if_pos s,B]
  have OR:((w:Int)<=16)=True:=eq_true an;simp(disch:=omega)[nz,ZO,fH,OR,vd,oa,zf,tJ,o,sv,FV,u,P,Q,q,R,S,T,la,iq,aC,leFn,U,hf,F]
 ·have F:((a.kind:Int)==1)=false:=aO an
  by_cases J:a.kind=0
  ·have W:((a.kind:Int) !=0)=false:=Br an;have wN:=SU (G:=G) a.f l.1;have wY:=fe (k:=.u32) l.1;have fH:∀ r:List aw,True:=fun _=>trivial
   cases v:oT a.f with
   | some c =>
    have o:gg a=some ([],[c]):=by rw[gg,if_neg s,if_pos J,v]
    simp(disch:=omega)[-aad,nz,W,o,sv,FV,P,Q,q,R,S,T,la,iq,aC,leFn,U,E,F];refine ax wN ?_;simp(disch:=omega)[-aad,v];refine ax (zu8 (by infer_instance) c) ?_
    simp(disch:=omega)[-aad,FV,u,la]
   | none =>
    have X:(fD (ones::aP 34) a.f).length=35:=by simp[fD,l.1]
    obtain⟨d,yB⟩:∃ d,d=fD (ones::aP 34) a.f:=⟨_,rfl⟩;have K:=ZI (G:=G) (ones::aP 34) a.f ir l.1 B;rw[<-yB] at X K;have Ba:=fe (k:=.u32) X;have qK:(au .u32 (aP 35)).drop 35=[]:=rfl;simp(disch:=omega)[-aad,nz,W,P,Q,q,R,S,T,la,iq,aC,leFn,U,E,F];refine ax wN ?_;simp(disch:=omega)[-aad,v];refine ax (YV 4294967295) ?_;simp(disch:=omega)[-aad,q,iq,aC,leFn,E];refine ax K ?_
    simp(disch:=omega)[-aad,q,iq,aC,leFn,E,X,Ba,l.1,qK]
    have h3:Bk (H++[some (.cells [.vs [] .full,.vs [] .full]),some (.cells a.cs),some (.cells (au .u32 d))]) b z m L:=h.app fun n=>by simp[aw.cl,aX,V.cl,Nd.lD]
    have tj:=h3.shut.back;have M:=h3.shut.self;simp at tj M;have jl:(((aaF 2 (au .u32 (aP 35))).set 0 (au .u32 a.f)).set 1 (au .u32 d))=[au .u32 a.f,au .u32 d]:=rfl;rw[jl]
    refine aQ 2 (fun i=>[(4,.ptr H.length 0),(6,.ptr (H.length+1) 0),(56,.vs [au .u32 a.f,au .u32 d] .full),(57,.int .i64 2),(58,.int .i64 i)]) (fun _=>H++[some (.cells [.vs [] .full,.vs [] .full]),some (.cells a.cs),some (.cells (au .u32 d))])
     (fun i=>(0<i->nD a.f=none)/\(1<i->nD d=none)) ?_ ?_
    ·simp[av,M]
    intro i hi N
    by_cases Y:i<2
    ·obtain⟨g,eN,O,SP⟩:∃ g,[au .u32 a.f,au .u32 d][i]?=some (au .u32 g)/\g.length=35/\(i=0/\g=a.f\/i=1/\g=d):=by
      rcases(show i=0\/i=1 by omega) with rfl|rfl
      ·exact⟨a.f,rfl,l.1,.inl ⟨rfl,rfl⟩⟩
      ·exact⟨d,rfl,X,.inr ⟨rfl,rfl⟩⟩
     have hm:=zFD (G:=G) g O;have kE:=fe (k:=.u32) O;have xW:([au .u32 a.f,au .u32 d][i]'(by simp;omega))=au .u32 g:=(aal.1 eN).2;have p:=Ix .u32 (n:=35) (a:=g) (b:=a.f) O l.1
     have ho:∀(r:ae),aj (H.length+3) (H++some (.cells [.vs [] .full,.vs [] .full])::some (.cells a.cs)::some (.cells (au .u32 d))::r)=H++[some (.cells [.vs [] .full,.vs [] .full]),some (.cells a.cs),some (.cells (au .u32 d))]:=fun r=>by
      have:=h3.shut.back r;simpa using this
     simp(disch:=omega)[-aad,bM,xW,O,kE,qK,iq,leFn];refine ax hm ?_
     cases t:nD g with
     | none =>
      have iD:nD a.f=none/\(0<i->nD d=none):=by
       rcases SP with⟨rfl,rfl⟩|⟨rfl,rfl⟩
       ·exact⟨t,fun h=>by omega⟩
       ·exact⟨N.1 an,fun _=>t⟩
      simp(disch:=omega)[-aad,Y,-aab,bH,av,iD,ho]
      exact iD.2
     | some j =>
      have hj:j<34:=by have:=abO t;exact abr.1 this
      have hv:=zGW (G:=G) (by infer_instance) (j:Int);rw[if_pos ⟨an,an⟩] at hv;simp(disch:=omega)[-aad];refine ax hv ?_;simp(disch:=omega)[FV,-aad,O,kE,iq,aC,leFn,E,q]
      rcases SP with⟨rfl,rfl⟩|⟨rfl,rfl⟩
      ·have o:gg a=some ([(j:Int)],[0,ones]):=by rw[gg,if_neg s,if_pos J,v];simp only[t]
       simp only[decide_true] at p;simp(disch:=omega)[o,sv,FV,ones,u,-aad,p,la,iq,leFn]
      ·have II:g≠a.f:=fun e=>by rw[e,N.1 an] at t;cases t
       have o:gg a=some ([(j:Int)],[ones,0]):=by rw[gg,if_neg s,if_pos J,v];simp only[N.1 an,<-yB,t]
       rw[decide_eq_false II] at p;simp(disch:=omega)[o,sv,FV,ones,-aad,p,iq,leFn];refine ax (zu8 (by infer_instance) 4294967295) ?_;simp(disch:=omega)[FV,-aad];have A:=zC0 (G:=G) j hj;simp only[FV,ones] at A;refine ax A ?_;simp(disch:=omega)[u,-aad,la,iq,leFn]
    ·obtain rfl:i=2:=by omega
     have h1:=N.1 an;have h2:=N.2 an
     have o:gg a=none:=by rw[gg,if_neg s,if_pos J,v];simp only[h1,<-yB,h2]
     simp(disch:=omega)[-aad,o,sv,u,la]
  ·have o:gg a=none:=by rw[gg,if_neg s,if_neg J]
   have W:((a.kind:Int) !=0)=true:=kO an;simp(disch:=omega)[-aad,nz,W,o,sv,u,P,Q,q,R,S,T,la,iq,aC,leFn,U,F]
def Nd.wf(a:Nd):Prop:=(∀ c∈a.f,c<4294967296)/\(a.kind=1->Right ((a.vars.take a.n).map fun(x:Nat)=>(x:Int)) (a.tab.take (2^a.n))/\a.n<=4/\∀ w∈a.tab,w<4294967296)
def p7(a:Nd):Option Nat:=if a.kind=0 then oT a.f else none
def L9[aK G](x:Nat)(a:Nd)(h:Bk H b z m L)(c:L[x]?=some a):SF G 264 [.ptr b 0,.int .i64 x] H (.a_ [.agg (au .u32 a.f),.bool (decide (a.kind=0))]) H :=
 ⟨_,_,zCT x a h c,ir,h.shut.back _⟩
def G1[aK G](i:Int)(h:Bk H b z m L):SF G 258 [.ptr b 0,.int .i64 i] H (.bool (cA L i)) H :=
 ⟨_,_,zG6 i h,rfl,h.shut.self⟩
def du(L:List Nd)(i:Int):Option Nat:=if cA L i then(L[i.toNat]?).bind p7 else none
def zod[ar G][aK G](i:Int)(h:Bk H b z m L):SF G 266 [.ptr b 0,.int .i64 i] H (.a_ [.int .u32 ((du L i).getD 0:Nat),.bool (du L i).isSome]) H:=by
 refine ke aK.aeg (aaa rfl) ?_;have l:=h.shut.back;have p:=h.shut.self;have o:(au .u32 (aP 35)).drop 35=[]:=rfl;simp;refine cL (G1 i h) ?_;cases hi:cA L i
 ·simp[p,du,hi]
 ·obtain⟨q,u⟩:0<=i/\i<L.length:=by simpa[cA] using hi
  obtain⟨n,rfl⟩:=aat q
  have s:n<L.length:=an
  obtain⟨a,e⟩:∃ a,L[n]?=some a:=⟨_,kP s⟩;have c:=h.ok a (aau e);have t:=fe (k:=.u32) c.1
  have g:du L n=p7 a:=by simp[du,hi,e]
  rw[g];simp;refine cL (L9 n a (h.app (r:=[none]) fun n=>by simp) e) ?_
  by_cases d:a.kind=0
  ·have j:p7 a=oT a.f:=by rw[p7,if_pos d]
   simp[d,j,o,c.1,t];refine ax (SU a.f c.1) ?_;simp[l]
  ·have j:p7 a=none:=by rw[p7,if_neg d]
   simp[d,j,o,c.1,l]
abbrev R3:=Int×Bool×List Nd
def mO(p:Int×List Nd):R3:=(p.1,true,p.2)
def lg(L:List Nd):R3:=(0,false,L)
def kc(L:List Nd)(kind:Int)(a c:Nd):R3 :=
 if a.kind=0/\c.kind=0 then
  if kind=4 then mO (ba L (eZ (jV a.f c.f)))
  else if kind=20 then mO (ba L (eZ (fD a.f c.f)))
  else match oT a.f,oT c.f with
   | some u,some v=>if kind=36 then mO (ba L (eZ (eG a.f v))) else if kind=100 then mO (ba L (eZ (eG a.f (dm 100 1 v).1)))
    else((ba L (eZ ((dm kind u v).1::aP 34))).1,(dm kind u v).2,(ba L (eZ ((dm kind u v).1::aP 34))).2)
   | none,some v=>if kind=36 then mO (ba L (eZ (eG a.f v))) else if kind=100 then mO (ba L (eZ (eG a.f (dm 100 1 v).1))) else lg L
   | some u,none=>if kind=36 then mO (ba L (eZ (eG c.f u))) else lg L
   | none,none=>lg L
 else lg L
def BF3(G:aM)(f:Nat)(args:List V)(H:ae)(b z m:Nat)(p:R3):Prop:=SF G f (.ptr b 0::args) H (.a_ [.int .i64 p.1,.bool p.2.1]) (dC H b z m p.2.2)
def x6{f:List Nat}{c:Nat}(h:oT f=some c)(a:∀ x∈f,x<4294967296):c<4294967296:=by
 rw[oT] at h;split at h
 ·exact a c (List.mem_of_mem_head? h)
 ·cases h
def zFE[dR G][ar G][aK G](kind:Int)(x y:Nat)(a c:Nd)(h:Bk H b z m L)(q:L.length<1000000)(R:L[x]?=some a)(S:L[y]?=some c)(U:a.wf)(K:c.wf) :
  BF3 G 267 [.int .i64 kind,.int .i64 x,.int .i64 y] H b z m (kc L kind a c):=by
 refine ke aK.aeh (aaa rfl) ?_;have T:(au .u32 (aP 35)).drop 35=[]:=rfl;have e:=h.ok a (aau R);have l:=h.ok c (aau S);have w:=fe (k:=.u32) e.1;have F:=fe (k:=.u32) l.1
 have V:Bk (H++[some (.cells (au .u32 a.f))]) b z m L:=h.app fun n=>by simp[aw.cl]
 have p:Bk (H++[some (.cells (au .u32 a.f)),some (.cells (au .u32 c.f))]) b z m L:=h.app fun n=>by simp[aw.cl]
 have A:=h.shut.back;have W:=V.shut.self;have X:=p.shut.self;have s:∀ L',dC (H++[some (.cells (au .u32 a.f)),some (.cells (au .u32 c.f))]) b z m L'=dC H b z m L'++[some (.cells (au .u32 a.f)),some (.cells (au .u32 c.f))]:=fun L'=>h.cf _ L';have t:∀ L' r,aj H.length (dC H b z m L'++r)=dC H b z m L':=fun L' r=>h.back L' r;have B:=h.fW;simp at W X;simp;refine cL (L9 x a (h.app (r:=[none]) fun n=>by simp) R) ?_
 simp[T,e.1];refine cL (L9 y c (h.app (r:=[some (.cells (au .u32 a.f)),none]) fun n=>by simp[aw.cl]) S) ?_;simp[T,l.1]
 by_cases g:a.kind=0
 case neg=>simp[g,kc,lg,B,A]
 by_cases o:c.kind=0
 case neg=>simp[g,o,kc,lg,B,A]
 have Y:=SU (G:=G) a.f e.1;have Z:=SU (G:=G) c.f l.1;simp[g,o,e.1,w,leFn];refine ax Y ?_;simp[l.1,F,aC,leFn];refine ax Z ?_;simp
 have V_:(fD a.f c.f).length=35:=by simp[fD,e.1,l.1]
 have yQ:(jV a.f c.f).length=35:=by simp[jV,e.1,l.1]
 have M:∀ k,(eG a.f k).length=35:=fun k=>by simp[eG,e.1]
 have ZP:∀ k,(eG c.f k).length=35:=fun k=>by simp[eG,l.1]
 by_cases C:kind=4
 ·subst C
  have d:kc L 4 a c=mO (ba L (eZ (jV a.f c.f))):=by simp[kc,g,o]
  simp[e.1,w,l.1,F,aC,leFn];refine ax (zFC a.f c.f e.1 l.1) ?_;simp;refine cL (CJ (jV a.f c.f) yQ p q) ?_;simp[s,t,d,mO,ba]
 by_cases D:kind=20
 ·subst D
  have d:kc L 20 a c=mO (ba L (eZ (fD a.f c.f))):=by simp[kc,g,o]
  simp[e.1,w,l.1,F,aC,leFn];refine ax (ZI a.f c.f e.1 l.1 K.1) ?_;simp;refine cL (CJ (fD a.f c.f) V_ p q) ?_;simp[s,t,d,mO,ba]
 by_cases E:kind=36
 ·subst E
  cases i:oT a.f<;>cases j:oT c.f
  ·have d:kc L 36 a c=lg L:=by simp[kc,g,o,i,j]
   simp[d,lg,B,A]
  ·rename_i v
   have d:kc L 36 a c=mO (ba L (eZ (eG a.f v))):=by simp[kc,g,o,i,j]
   simp[e.1,w,leFn];refine ax (SR a.f v e.1) ?_;simp;refine cL (CJ (eG a.f v) (M v) p q) ?_;simp[s,t,d,mO,ba]
  ·rename_i u
   have d:kc L 36 a c=mO (ba L (eZ (eG c.f u))):=by simp[kc,g,o,i,j]
   simp[l.1,F,aC,leFn];refine ax (SR c.f u l.1) ?_;simp;refine cL (CJ (eG c.f u) (ZP u) p q) ?_;simp[s,t,d,mO,ba]
  ·rename_i u v
   have d:kc L 36 a c=mO (ba L (eZ (eG a.f v))):=by simp[kc,g,o,i,j]
   simp[e.1,w,leFn];refine ax (SR a.f v e.1) ?_;simp;refine cL (CJ (eG a.f v) (M v) p q) ?_;simp[s,t,d,mO,ba]
 have N:(kind==4)=false:=aO C;have O:(kind==20)=false:=aO D;have P:(kind==36)=false:=aO E
 by_cases I:kind=100
 ·subst I
  cases j:oT c.f with
  | none =>
   have d:kc L 100 a c=lg L:=by cases i:oT a.f<;>simp[kc,g,o,i,j]
   cases i:oT a.f<;>simp[d,lg,B,A]
  | some v =>
   have d:kc L 100 a c=mO (ba L (eZ (eG a.f (dm 100 1 v).1))):=by cases i:oT a.f<;>simp[kc,g,o,i,j]
   have J:=KZ (G:=G) (by infer_instance) 100 1 v (by decide) (x6 j K.1);simp at J;simp;refine ax J ?_;simp[e.1,w,leFn];refine ax (SR a.f (dm 100 1 v).1 e.1) ?_;simp;refine cL (CJ (eG a.f (dm 100 1 v).1) (M _) p q) ?_;simp[s,t,d,mO,ba]
 have Q:(kind==100)=false:=aO I
 cases i:oT a.f with
 | none =>
  have d:kc L kind a c=lg L:=by cases j:oT c.f<;>simp[kc,g,o,i,j,C,D,E,I]
  simp[N,O,P,Q,d,lg,B,A]
 | some u =>
  cases j:oT c.f with
  | none =>
   have d:kc L kind a c=lg L:=by simp[kc,g,o,i,j,C,D,E]
   simp[N,O,P,Q,d,lg,B,A]
  | some v =>
   have d:kc L kind a c=((ba L (eZ ((dm kind u v).1::aP 34))).1,(dm kind u v).2,(ba L (eZ ((dm kind u v).1::aP 34))).2):=by simp[kc,g,o,i,j,C,D,E,I]
   have J:=KZ (G:=G) (by infer_instance) kind u v (x6 i U.1) (x6 j K.1);simp[N,O,P,Q];refine ax J ?_;simp;refine cL (Lf (dm kind u v).1 p q) ?_;simp[s,t,d,ba]
def SX{f:List Nat}{i:Nat}(h:nD f=some i):i<34:=abr.1 (abO h)
def G3{a:Nd}{p:List Int×List Nat}(d:a.wf)(h:gg a=some p):Right p.1 p.2/\∀ w∈p.2,w<4294967296:=by
 rw[gg] at h;split at h
 ·rename_i e;obtain⟨f,m,g⟩:=d.2 e;cases h;exact⟨f,fun w b=>g w (aaz b)⟩
 ·split at h
  ·split at h
   ·rename_i c k;cases h;exact⟨⟨ir,ir,fun j l=>by simp at l⟩,fun w b=>by rw[abG.1 b];exact x6 k d.1⟩
   ·split at h
    ·rename_i i hi;cases h;exact⟨(ZN i (SX hi)).1,by simp[ones]⟩
    ·split at h
     ·rename_i i hi;cases h;exact⟨(ZN i (SX hi)).2,by simp[ones]⟩
     ·cases h
  ·cases h
open Classical in
noncomputable def zC(kind:Int)(p q:List Int×List Nat):Option (List Int×List Nat) :=
 if h:pb kind p.1 q.1 p.2 q.2/\∃ r:List Int×List Nat,Right r.1 r.2/\(∀ w∈r.2,w<4294967296)/\∀ s,dq r.1 r.2 s=(dm kind (dq p.1 p.2 s) (dq q.1 q.2 s)).1 then some (Classical.choose h.2) else none
def Ey(o:Option (List Int×List Nat)):V:=match o with
 | some p=>.a_ [FV p.1 p.2,.bool true]
 | none=>.a_ [FV [] [],.bool false]
def SY{kind:Int}{p q r:List Int×List Nat}(h:zC kind p q=some r):pb kind p.1 q.1 p.2 q.2/\Right r.1 r.2/\(∀ w∈r.2,w<4294967296)/\∀ s,dq r.1 r.2 s=(dm kind (dq p.1 p.2 s) (dq q.1 q.2 s)).1:=by
 rw[zC] at h;split at h
 ·rename_i a;cases h;exact⟨a.1,Classical.choose_spec a.2⟩
 ·cases h
def zHc[j:bG G](kind:Int)(p q:List Int×List Nat)(c:Right p.1 p.2)(d:Right q.1 q.2)(k:∀ w∈p.2,w<4294967296)(l:∀ w∈q.2,w<4294967296) :
  FP G 109 [.int .i64 kind,FV p.1 p.2,FV q.1 q.2] (Ey (zC kind p q))/\(zC kind p q=none->¬pb kind p.1 q.1 p.2 q.2):=by
 have b:=c.1;have m:=d.1;have y:=Ch b c.2.1;have z:=Ch m d.2.1;obtain⟨r,f,h|⟨n,o,t,rfl,g,u,i⟩⟩:=zEp j kind p.1 q.1 p.2 q.2 an an an an k l
 ·have e:zC kind p q=none:=by rw[zC,dif_neg (fun a=>h.1 a.1)]
  rw[e];obtain⟨b,rfl⟩:=h;exact⟨f,fun _=>b⟩
 ·have a:pb kind p.1 q.1 p.2 q.2/\∃ r:List Int×List Nat,Right r.1 r.2/\(∀ w∈r.2,w<4294967296)/\∀ s,dq r.1 r.2 s=(dm kind (dq p.1 p.2 s) (dq q.1 q.2 s)).1:=⟨n,(o,t),g,u,i⟩
  have e:zC kind p q=some (Classical.choose a.2):=by rw[zC,dif_pos a]
  obtain⟨_,R,W,S⟩:=SY e;rw[e];refine⟨?_,fun h=>by cases h⟩
  obtain⟨v,x⟩:=zEo g R fun s=>by rw[i,S]
  rw[Ey,<-v,<-x];exact f
noncomputable def lh(L:List Nd)(kind:Int)(a c:Nd):R3 :=
 match gg a,gg c with
 | some p,some q=>(match zC kind p q with|some r=>mO (th L r.1 r.2)|none=>lg L)
 | _,_=>lg L
def G2[ar G][bG G][aK G](x:Nat)(a:Nd)(h:Bk H b z m L)(d:L[x]?=some a)(c:a.wf):SF G 265 [.ptr b 0,.int .i64 x] H (sv (gg a)) H :=
 zAR x a h d (fun e=>(c.2 e).2.1) c.1
def me(o:Option (List Int×List Nat)):List V:=match o with
 | some p=>[.vs (ints .i64 p.1) .no,.vs (ak .u32 p.2) .no]
 | none=>[.vs [] .full,.vs [] .full]
def JL(o:Option (List Int×List Nat)):sv o=.a_ [.agg (me o),.bool o.isSome]:=by cases o<;>rfl
def JM(o:Option (List Int×List Nat)):(me o).length=2:=by cases o<;>rfl
def JK(o:Option (List Int×List Nat))(n:Nat):aX n (me o)=me o:=by cases o<;>simp[me,aX,V.cl]
def zC1[ar G][bG G][aK G](kind:Int)(x y:Nat)(a c:Nd)(h:Bk H b z m L)(u:L.length<1000000)(v:L[x]?=some a)(w:L[y]?=some c)(k:a.wf)(l:c.wf) :
  BF3 G 268 [.int .i64 kind,.int .i64 x,.int .i64 y] H b z m (lh L kind a c):=by
 refine ke aK.aei (aaa rfl) ?_
 have A:Bk (H++[some (.cells (me (gg a)))]) b z m L:=h.app fun n=>by simp[aw.cl,JK]
 have o:Bk (H++[some (.cells (me (gg a))),some (.cells (me (gg c)))]) b z m L:=h.app fun n=>by simp[aw.cl,JK]
 have g:=h.shut.back;have B:=A.shut.self;have s:=o.shut.self;have C:∀ L' r,aj H.length (dC H b z m L'++r)=dC H b z m L':=fun L' r=>h.back L' r;have i:=h.fW;simp at B s;simp;refine cL (G2 x a (h.app (r:=[none]) fun n=>by simp) v k) ?_;simp[JL,JM];refine cL (G2 y c (h.app (r:=[some (.cells (me (gg a))),none]) fun n=>by simp[aw.cl,JK]) w l) ?_;simp[JL,JM]
 cases e:gg a with
 | none => 
  have d:lh L kind a c=lg L:=by simp[lh,e]
  simp[d,lg,i,g]
 | some p =>
  cases f:gg c with
  | none =>
   have d:lh L kind a c=lg L:=by simp[lh,e,f]
   simp[d,lg,i,g]
  | some q =>
   obtain⟨D,E⟩:=G3 k e;obtain⟨F,I⟩:=G3 l f;obtain⟨t,M⟩:=zHc (G:=G) kind p q D F E I;simp[e,f] at s o;simp[me];simp only[FV] at t;refine ax t ?_
   cases j:zC kind p q with
   | none =>
    have d:lh L kind a c=lg L:=by simp[lh,e,f,j]
    simp[Ey,FV,d,lg,i,g]
   | some r =>
    have d:lh L kind a c=mO (th L r.1 r.2):=by simp[lh,e,f,j]
    simp[Ey,FV,d,mO]
    have J:Bk (H++[some (.cells [.vs (ints .i64 p.1) .no,.vs (ak .u32 p.2) .no]),some (.cells [.vs (ints .i64 q.1) .no,.vs (ak .u32 q.2) .no]),some (.cells [.vs (ints .i64 r.1) .no,.vs (ak .u32 r.2) .no])]) b z m L :=
     h.app fun n=>by simp[aw.cl,aX,V.cl]
    have K:=h.cf [some (.cells [.vs (ints .i64 p.1) .no,.vs (ak .u32 p.2) .no]),some (.cells [.vs (ints .i64 q.1) .no,.vs (ak .u32 q.2) .no]),some (.cells [.vs (ints .i64 r.1) .no,.vs (ak .u32 r.2) .no])] (th L r.1 r.2).2;refine cL (zCZ r.1 r.2 (SY j).2.1 J u) ?_;simp[K,C]
def kH(kind:Int)(a:Option Nat)(x y:Int):Int×Bool :=
 if kind=4\/kind=20\/kind=100\/kind=116 then(x,decide (a=some 0)) else if kind=68 then(x,decide (a=some 0)||decide (x=y)) else if kind=164 then(x,decide (a=some 0))
 else if kind=84 then(x,decide (a=some ones)||decide (x=y)) else(0,false)
def ztj[ar G][aK G](kind x y:Int)(h:Bk H b z m L) :
  SF G 269 [.ptr b 0,.int .i64 kind,.int .i64 x,.int .i64 y] H (.a_ [.int .i64 (kH kind (du L y) x y).1,.bool (kH kind (du L y) x y).2]) H:=by
 refine ke aK.aej (aaa rfl) ?_;have a:=h.shut.self;simp;refine cL (zod y h) ?_
 have l:((x==y):Bool)=decide (x=y):=by rw[abi];simp
 have n:∀(u w:Bool),u=decide (du L y=some 0)->w=decide (du L y=some ones)->True:=fun _ _ _ _=>trivial
 cases s:du L y with
 | none =>
  simp
  by_cases d:kind=4
  ·subst d;simp[a,kH]
  by_cases e:kind=20
  ·subst e;simp[a,kH]
  by_cases f:kind=100
  ·subst f;simp[a,kH]
  by_cases g:kind=116
  ·subst g;simp[a,kH]
  by_cases i:kind=68
  ·subst i;simp[a,kH,l]
  by_cases j:kind=164
  ·subst j;simp[a,kH]
  by_cases k:kind=84
  ·subst k;simp[a,kH,l]
  simp[a,kH,aO d,aO e,aO f,aO g,aO i,aO j,aO k,d,e,f,g,i,j,k]
 | some c =>
  have q:((c:Int)==0)=decide (c=0):=by rw[abi];simp
  have r:((c:Int)==4294967295)=decide (c=4294967295):=by rw[abi];simp;omega
  simp[q,r]
  by_cases d:kind=4
  ·subst d;simp[a,kH]
  by_cases e:kind=20
  ·subst e;simp[a,kH]
  by_cases f:kind=100
  ·subst f;simp[a,kH]
  by_cases g:kind=116
  ·subst g;simp[a,kH]
  by_cases i:kind=68
  ·subst i
   by_cases o:c=0
   ·simp[a,kH,o]
   ·simp[a,kH,l,o]
  by_cases j:kind=164
  ·subst j;simp[a,kH]
  by_cases k:kind=84
  ·subst k
   by_cases p:c=4294967295
   ·simp[a,kH,p,ones]
   ·simp[a,kH,l,p,ones]
  simp[a,kH,aO d,aO e,aO f,aO g,aO i,aO j,aO k,d,e,f,g,i,j,k]
variable {L:List Nd}
def Nd.cJ(n:Nat)(a:Nd):Prop:=a.ok/\a.wf/\(a.kind=0\/a.kind=1\/a.kind=2/\a.x<n/\a.y<n/\(dm a.op 0 1).2=true)
structure Inv (L:List Nd):Prop where
 cJ:∀(i:Nat) (a:Nd),L[i]?=some a->a.cJ i
 one:L.Nodup
def Inv.ok(h:Inv L):∀ a∈L,a.ok:=fun a b=>by obtain⟨i,hi⟩:=aaS b;exact(h.cJ i a hi).1
def Inv.wf(h:Inv L):∀ a∈L,a.wf:=fun a b=>by obtain⟨i,hi⟩:=aaS b;exact(h.cJ i a hi).2.1
def Inv.nil:Inv []:=⟨fun i a h=>by simp at h,List.nodup_nil⟩
structure Ext (L L':List Nd) (k:Nat):Prop where
 pre:L <+: L'
 inv:Inv L'
 len:L'.length<=L.length+k
def Ext.refl(h:Inv L)(k:Nat):Ext L L k:=⟨acx L,h,an⟩
def Ext.trans{L' UX:List Nd}{k l:Nat}(h:Ext L L' k)(a:Ext L' UX l):Ext L UX (k+l):=⟨h.pre.trans a.pre,a.inv,by have:=h.len;have:=a.len;omega⟩
def Ext.mono{L':List Nd}{k l:Nat}(h:Ext L L' k)(a:k<=l):Ext L L' l:=⟨h.pre,h.inv,by have:=h.len;omega⟩
def zxx{α:Type}{l b:List α}(h:l <+: b){i:Nat}{a:α}(hi:l[i]?=some a):b[i]?=some a:=by obtain⟨t,rfl⟩:=h;rw[aam (aal.1 hi).1];exact hi
def Ext.get{L':List Nd}{k i:Nat}{a:Nd}(h:Ext L L' k)(hi:L[i]?=some a):L'[i]?=some a:=zxx h.pre hi
def wB(h:Inv L){a:Nd}(f:a.cJ L.length):Ext L (ba L a).2 1/\∃ i:Nat,(ba L a).1=i/\(ba L a).2[i]?=some a:=by
 by_cases c:a∈L
 ·have e:(ba L a).2=L:=by show iS L a=L;rw[iS,if_pos c]
  refine⟨by rw[e];exact .refl h 1,L.idxOf a,rfl,?_⟩;rw[e,aae (List.idxOf_lt_length_of_mem c),List.getElem_idxOf]
 ·have e:(ba L a).2=L++[a]:=by show iS L a=_;rw[iS,if_neg c]
  have g:(ba L a).1=(L.length:Nat):=by show((L.idxOf a:Nat):Int)=_;rw[ztg c]
  refine⟨⟨by rw[e];exact acr _ _,?_,by rw[e];simp⟩,L.length,g,by rw[e];simp⟩;rw[e];refine⟨fun i x b=>?_,?_⟩
  ·by_cases hi:i<L.length
   ·rw[aam hi] at b;exact h.cJ i x b
   ·have j:=(aal.1 b).1;simp at j
    obtain rfl:i=L.length:=by omega
    simp at b;subst b;exact f
  ·rw[List.nodup_append];exact⟨h.one,ir,fun x b y d e'=>by simp at d;rw[<-d,<-e'] at c;exact c b⟩
def zD{f:List Nat}(a:f.length=35)(b:∀ c∈f,c<4294967296)(n:Nat):(eZ f).cJ n:=⟨⟨a,rfl,rfl⟩,⟨b,fun h=>by cases h⟩,.inl rfl⟩
def wF(n:Nat):∀ c∈aP n,c<4294967296:=fun c a=>by rw[aP,abm] at a;omega
def CM{c:Nat}(b:c<4294967296):∀ x∈c::aP 34,x<4294967296:=fun x a=>by
 rcases aa_.1 a with rfl|a
 ·exact b
 ·exact wF 34 x a
def ZS(i:Nat):∀ x∈cG i,x<4294967296:=fun x a=>by
 rw[cG] at a
 rcases abh a with a|rfl
 ·exact wF 35 x a
 ·omega
def SZ(i:Nat):(cG i).length=35:=by simp[cG]
def ZT{o:Nat->Nat->Nat}(d:∀ a b,o a b<4294967296):∀(f g:List Nat),∀ x∈aaA o f g,x<4294967296
 | [],_,x,c=>by simp at c
 | _::_,[],x,c=>by simp at c
 | a::f,b::g,x,c=>by
  simp only[abb,aa_] at c
  rcases c with rfl|c
  ·exact d a b
  ·exact ZT d f g x c
def zxy(f g:List Nat):∀ x∈jV f g,x<4294967296:=ZT (fun a b=>ab9 _ (by decide)) f g
def ZU(f g:List Nat):∀ x∈fD f g,x<4294967296:=ZT (fun a b=>ab9 _ (by decide)) f g
def Gj(f:List Nat)(k:Nat):∀ x∈eG f k,x<4294967296:=fun x a=>by
 obtain⟨y,_,rfl⟩:=aaH.1 a;exact ab9 _ (by decide)
def zvn{f g:List Nat}(a:f.length=35)(b:g.length=35):(jV f g).length=35:=by simp[jV,a,b]
def ZV{f g:List Nat}(a:f.length=35)(b:g.length=35):(fD f g).length=35:=by simp[fD,a,b]
def Gk{f:List Nat}(k:Nat)(a:f.length=35):(eG f k).length=35:=by simp[eG,a]
def zrd{fv:List Int}{ft:List Nat}(h:∀ v∈fv,0<=v)(a:ft.length=2^fv.length):((u4 fv ft).vars.take (u4 fv ft).n).map (fun(x:Nat)=>(x:Int))=fv/\(u4 fv ft).tab.take (2^(u4 fv ft).n)=ft:=by
 constructor
 ·show((fv.map abl++aP (4-fv.length)).take fv.length).map _=fv;rw[aaK ir,acp]
  conv=>rhs;rw[<-List.map_id fv]
  exact aci fun v b=>by have:=h v b;simp;omega
 ·show(ft++aP (16-ft.length)).take (2^fv.length)=ft;rw[<-a];exact aaK rfl
def zvo{fv:List Int}{ft:List Nat}(h:Right fv ft):∀ v∈fv,0<=v:=fun v c=>by
 obtain⟨j,a,rfl⟩:=acg c;obtain⟨w,b,d,_⟩:=h.2.2 j a;rw[aae a] at b;cases b;exact d
def zC2{fv:List Int}{ft:List Nat}(h:Right fv ft)(d:∀ c∈ft,c<4294967296)(n:Nat):(u4 fv ft).cJ n:=by
 have a:=h.1
 have g:ft.length<=16:=by rw[h.2.1];exact abd (n:=2) (by decide) a
 obtain⟨e,f⟩:=zrd (zvo h) h.2.1;refine⟨⟨rfl,by simp[u4];omega,by simp[u4];omega⟩,⟨wF 35,fun _=>⟨?_,a,?_⟩⟩,.inr (.inl rfl)⟩
 ·rw[e,f];exact h
 ·intro w b;simp only[u4,aaY] at b
  rcases b with h|h
  ·exact d w h
  ·exact wF _ w h
def zFF:∀ i,i<34->gg (eZ (cG i))=some ([(i:Int)],[0,ones])/\gg (eZ (fD (ones::aP 34) (cG i)))=some ([(i:Int)],[ones,0]):=by decide +kernel
def zvp(h:Inv L){fv:List Int}{ft:List Nat}(d:Right fv ft)(o:∀ c∈ft,c<4294967296):Ext L (th L fv ft).2 1/\∃(i:Nat) (a:Nd),(th L fv ft).1=i/\(th L fv ft).2[i]?=some a/\gg a=some (fv,ft):=by
 have b:th L fv ft=ba L (u4 fv ft)->Ext L (th L fv ft).2 1/\∃(i:Nat) (a:Nd),(th L fv ft).1=i/\(th L fv ft).2[i]?=some a/\gg a=some (fv,ft):=fun e=>by
  obtain⟨l,m⟩:=zrd (zvo d) d.2.1;obtain⟨g,i,j,k⟩:=wB h (zC2 d o _);rw[e];exact⟨g,i,_,j,k,by rw[gg,if_pos (show(u4 fv ft).kind=1 from rfl),l,m]⟩
 match fv,d,b with
 | [],d,b =>
  obtain⟨c,rfl⟩:∃ c,ft=[c]:=by match ft,d.2.1 with|[c],_=>exact⟨c,rfl⟩
  obtain⟨g,i,j,k⟩:=wB h (zD (f:=c::aP 34) ir (CM (o c ir)) _)
  exact⟨g,i,_,j,k,by simp[gg,eZ,sj,oT]⟩
 | [v],d,b =>
  obtain⟨w,p,q,x,_⟩:=d.2.2 0 ir
  obtain rfl:v=w:=by simpa using p
  obtain⟨n,rfl⟩:=aat q;obtain⟨r,s⟩:=zFF n an
  by_cases l:ft=[0,ones]
  ·have e:th L [(n:Int)] ft=ba L (eZ (cG n)):=by rw[l];rfl
   obtain⟨g,i,j,k⟩:=wB h (zD (SZ n) (ZS n) _);rw[e];exact⟨g,i,_,j,k,by rw[r,l]⟩
  ·by_cases m:ft=[ones,0]
   ·have e:th L [(n:Int)] ft=ba L (eZ (fD (ones::aP 34) (cG n))):=by rw[m];rfl
    obtain⟨g,i,j,k⟩:=wB h (zD (ZV (f:=ones::aP 34) rfl (SZ n)) (ZU _ _) _);rw[e];exact⟨g,i,_,j,k,by rw[s,m]⟩
   ·exact b (by simp only[th,l,m,if_false])
 | u::v::t,d,b=>exact b rfl
def im.qP{H:ae}(h:im H){r:ae}(b:∀ n,(H++r).length<=n->r.map (abv (aw.cl n))=r):im (H++r):=by intro m a;rw[abz,b m a,h m (by rw[aaM] at a;omega)]
def Bk.qP(h:Bk H b z m L){r:ae}(a:∀ n,(H++r).length<=n->r.map (abv (aw.cl n))=r):Bk (H++r) b z m L :=
 ⟨by rw[aam h.lb];exact h.hb,by rw[aam h.lz];exact h.hz,by rw[aam h.lm];exact h.hm,h.shut.qP a,h.ok,h.small⟩
def Bk.to(h:Bk H b z m L){L':List Nd}(hi:Inv L')(a:L'.length<=1000000):Bk (dC H b z m L') b z m L':=h.Iy hi.ok a
def ztk(h:Bk H b z m L){L':List Nd}{p:Nat}{c:List V}(a:H[p]?=some (some (.cells c)))(d:p≠b):(dC H b z m L')[p]?=some (some (.cells c)):=by
 unfold dC
 have f:m≠p:=fun e=>by subst e;rw[h.hm] at a;simp at a
 have g:z≠p:=fun e=>by subst e;rw[h.hz] at a;simp at a
 rw[aaB f,aaB g,aaB (Ne.symm d)];exact a
def xB(kind:Int):Bool:=decide (kind≠20/\kind≠52/\kind≠100/\kind≠116)
def z_(kind:Int)(x y:Nat):Nd:={ sj with kind:=2,op:=kind,x:=x,y:=y }
noncomputable def sC(L:List Nd)(kind:Int)(x y:Nat)(a c:Nd):Int×List Nd :=
 let b:=kc L kind a c
 let d:=lh b.2.2 kind a c
 let e:=kH kind (p7 c) x y
 let f:=kH kind (p7 a) y x
 if b.2.1=true then(b.1,b.2.2) else if d.2.1=true then(d.1,d.2.2) else if e.2=true then(e.1,b.2.2)
 else if xB kind=true/\f.2=true then(f.1,b.2.2)
 else if xB kind=true/\y<x then ba b.2.2 (z_ kind y x) else ba b.2.2 (z_ kind x y)
noncomputable def ik(L:List Nd)(kind x y:Int):Int×List Nd :=
 if(dm kind 0 1).2=true/\cA L x=true/\cA L y=true then(match L[x.toNat]?,L[y.toNat]? with|some a,some c=>sC L kind x.toNat y.toNat a c|_,_=>(-1,L)) else(-1,L)
def zFG(L:List Nd)(kind:Int)(a c:Nd)(h:(lh L kind a c).2.1=false):(lh L kind a c).2.2=L:=by
 cases b:gg a with
 | none=>simp[lh,b,lg]
 | some p =>
  cases d:gg c with
  | none=>simp[lh,b,d,lg]
  | some q =>
   cases e:zC kind p q with
   | none=>simp[lh,b,d,e,lg]
   | some r=>simp[lh,b,d,e,mO] at h
section
variable {K:ae} {kind:Int} {x y p0 p1 p2 p3 p4:Nat} {a c:Nd}
def zFH[dR G][ar G][aK G](h:Bk K b z m L)(e:L.length<1000000)(f:L[x]?=some a)(g:L[y]?=some c)(i:a.wf)(j:c.wf)
  (k:K[p0]?=some (some (.cells [.ptr b 0]))) (l:K[p1]?=some (some (.cells [.int .i64 kind]))) (n:K[p2]?=some (some (.cells [.int .i64 x]))) (o:K[p3]?=some (some (.cells [.int .i64 y]))) :
  SF G 270 [.ptr p0 0,.ptr p1 0,.ptr p2 0,.ptr p3 0] K (.a_ [.int .i64 (kc L kind a c).1,.bool (kc L kind a c).2.1]) (dC K b z m (kc L kind a c).2.2):=by
 refine ke aK.aek (aaa rfl) ?_;have d:=h.back (kc L kind a c).2.2 [];simp at d;simp[k,l,n,o];refine cL (zFE kind x y a c h e f g i j) ?_;simp[d]
def zFI[ar G][bG G][aK G](h:Bk K b z m L)(e:L.length<1000000)(f:L[x]?=some a)(g:L[y]?=some c)(i:a.wf)(j:c.wf)
  (k:K[p0]?=some (some (.cells [.ptr b 0]))) (l:K[p1]?=some (some (.cells [.int .i64 kind]))) (n:K[p2]?=some (some (.cells [.int .i64 x]))) (o:K[p3]?=some (some (.cells [.int .i64 y]))) :
  SF G 271 [.ptr p0 0,.ptr p1 0,.ptr p2 0,.ptr p3 0] K (.a_ [.int .i64 (lh L kind a c).1,.bool (lh L kind a c).2.1]) (dC K b z m (lh L kind a c).2.2):=by
 refine ke aK.ael (aaa rfl) ?_;have d:=h.back (lh L kind a c).2.2 [];simp at d;simp[k,l,n,o];refine cL (zC1 kind x y a c h e f g i j) ?_;simp[d]
def zFJ[ar G][aK G](h:Bk K b z m L)
  (a:K[p0]?=some (some (.cells [.ptr b 0]))) (c:K[p1]?=some (some (.cells [.int .i64 kind]))) (d:K[p2]?=some (some (.cells [.int .i64 x]))) (e:K[p3]?=some (some (.cells [.int .i64 y]))) :
  SF G 272 [.ptr p0 0,.ptr p1 0,.ptr p2 0,.ptr p3 0] K (.a_ [.int .i64 (kH kind (du L y) x y).1,.bool (kH kind (du L y) x y).2]) K:=by
 refine ke aK.aem (aaa rfl) ?_;have f:=h.shut.self;simp[a,c,d,e];refine cL (ztj kind x y h) ?_;simp[f]
def zFK[ar G][aK G](a:Bool)(h:Bk K b z m L)(c:K[p4]?=some (some (.cells [.bool a])))
  (e:K[p0]?=some (some (.cells [.ptr b 0]))) (f:K[p1]?=some (some (.cells [.int .i64 kind]))) (g:K[p2]?=some (some (.cells [.int .i64 x]))) (i:K[p3]?=some (some (.cells [.int .i64 y]))) :
  SF G 273 [.ptr p4 0,.ptr p0 0,.ptr p1 0,.ptr p3 0,.ptr p2 0] K (.a_ [.int .i64 (if a=true then(kH kind (du L x) y x).1 else 0),.bool (a&&(kH kind (du L x) y x).2)]) K:=by
 refine ke aK.aen (aaa rfl) ?_;have d:=h.shut.self;cases a
 ·simp[c,d]
 ·simp[e,f,g,i,c];refine cL (ztj kind y x h) ?_;simp[d]
end
def ZW{kind:Int}{a c:Nd}(h:Inv L)(d:a.ok)(g:c.ok)(i:a.wf)(j:c.wf):Ext L (kc L kind a c).2.2 1:=by
 have e:Ext L (lg L).2.2 1:=.refl h 1;have b:∀ f:List Nat,f.length=35->(∀ x∈f,x<4294967296)->Ext L (mO (ba L (eZ f))).2.2 1:=fun f k l=>(wB h (zD k l _)).1;rw[kc];split
 ·split
  ·exact b _ (zvn d.1 g.1) (zxy _ _)
  ·split
   ·exact b _ (ZV d.1 g.1) (ZU _ _)
   ·split
    ·rename_i u v m n;split
     ·exact b _ (Gk _ d.1) (Gj _ _)
     ·split
      ·exact b _ (Gk _ d.1) (Gj _ _)
      ·exact(wB h (zD ir (CM (Sl kind (x6 m i.1) (x6 n j.1))) _)).1
    ·split
     ·exact b _ (Gk _ d.1) (Gj _ _)
     ·split
      ·exact b _ (Gk _ d.1) (Gj _ _)
      ·exact e
    ·split
     ·exact b _ (Gk _ g.1) (Gj _ _)
     ·exact e
    ·exact e
 ·exact e
def ztl{y:Nat}{c:Nd}(a:L[y]?=some c):du L y=p7 c:=by
 have b:=(aal.1 a).1
 have d:cA L y=true:=by simp[cA];exact b
 simp[du,d,a]
def S3{f:Nat}{cap args:List V}{r:V}{H':ae}{base:Nat}{d:Option Nat}{os:List aD}{K:List Kt}{e:Env}{Q:Ex->Env->ae->Prop}(h:SF G f (args++cap) H r H')
  (a:WO G base os K (e.put d r) H' Q):J4 G false (.fn f cap) args base d os K e H Q:=by
 obtain⟨i,H1,b,c,g⟩:=h;refine kj b ir ?_;rw[c,g];exact a
def S4[dR G][ar G][bG G][aK G](kind x y:Int)(h:Bk H b z m L)(hi:Inv L)(hs:L.length<999990):BF G 274 [.int .i64 kind,.int .i64 x,.int .i64 y] H b z m (ik L kind x y):=by
 refine ke aK.aeo (aaa rfl) ?_;obtain⟨B0,Cq⟩:∃ B0:ae,B0=[some (.cells [.ptr b 0]),some (.cells [.int .i64 kind]),some (.cells [.int .i64 x]),some (.cells [.int .i64 y])]:=⟨_,rfl⟩
 have X:∀ n,H.length<=n->b<n:=fun n D=>by have:=h.lb;omega
 have h1:Bk (H++[some (.cells [.ptr b 0]),some (.cells [.int .i64 kind]),some (.cells [.int .i64 x]),some (.cells [.int .i64 y])]) b z m L:=h.qP fun n D=>by simp[aw.cl,aX,V.cl];exact X n (by simp at D;omega)
 have rT:=h1.shut.self;have fH:=h.shut.back;have T:=h.fW;simp at rT;have wI:=KZ (G:=G) (by infer_instance) kind 0 1 (by decide) (by decide);simp at wI
 have jj:∀ p:Prop,ik L kind x y=(-1,L)->p->(ik L kind x y).1=-1/\dC H b z m (ik L kind x y).2=H:=fun p e _=>by rw[e];exact⟨rfl,T⟩
 simp;refine ax wI ?_;simp
 cases jG:(dm kind 0 1).2 with
 | false =>
  have J:ik L kind x y=(-1,L):=by rw[ik,if_neg (by simp[jG])]
  simp[J,T,fH]
 | true =>
  simp;refine cL (G1 x h1) ?_
  cases hx:cA L x with
  | false =>
   have J:ik L kind x y=(-1,L):=by rw[ik,if_neg (by simp[hx])]
   simp[J,T,fH]
  | true =>
   simp;refine cL (G1 y h1) ?_
   cases hy:cA L y with
   | false =>
    have J:ik L kind x y=(-1,L):=by rw[ik,if_neg (by simp[hy])]
    simp[J,T,fH]
   | true =>
    obtain⟨rM,xQ⟩:0<=x/\x<L.length:=by simpa[cA] using hx
    obtain⟨Dg,Ag⟩:0<=y/\y<L.length:=by simpa[cA] using hy
    obtain⟨f,rfl⟩:=aat rM;obtain⟨g,rfl⟩:=aat Dg;obtain⟨a,Y⟩:∃ a,L[f]?=some a:=⟨_,kP an⟩;obtain⟨c,Z⟩:∃ c,L[g]?=some c:=⟨_,kP an⟩
    have J:ik L kind f g=sC L kind f g a c:=by rw[ik,if_pos ⟨jG,hx,hy⟩];simp[Y,Z]
    rw[J];obtain⟨l,v⟩:∃ l,l=xB kind:=⟨_,rfl⟩
    have h2:Bk (H++[some (.cells [.ptr b 0]),some (.cells [.int .i64 kind]),some (.cells [.int .i64 f]),some (.cells [.int .i64 g]),some (.cells [.bool l])]) b z m L:=h.qP fun n D=>by simp[aw.cl,aX,V.cl];exact X n (by simp at D;omega)
    obtain⟨C,K⟩:∃ C:List V,C=[.fn 270 [.ptr H.length 0,.ptr (H.length+1) 0,.ptr (H.length+2) 0,.ptr (H.length+3) 0],.fn 271 [.ptr H.length 0,.ptr (H.length+1) 0,.ptr (H.length+2) 0,.ptr (H.length+3) 0],
     .fn 272 [.ptr H.length 0,.ptr (H.length+1) 0,.ptr (H.length+2) 0,.ptr (H.length+3) 0],.fn 273 [.ptr (H.length+4) 0,.ptr H.length 0,.ptr (H.length+1) 0,.ptr (H.length+3) 0,.ptr (H.length+2) 0]]:=⟨_,rfl⟩
    have uY:=h2.shut.self;simp at uY
    have c5:kind=20/\l=false\/kind=52/\l=false\/kind=100/\l=false\/kind=116/\l=false\/(kind≠20/\kind≠52/\kind≠100/\kind≠116)/\l=true:=by
     by_cases a1:kind=20
     ·simp[a1,v,xB]
     by_cases a2:kind=52
     ·simp[a2,v,xB]
     by_cases a3:kind=100
     ·simp[a3,v,xB]
     by_cases a4:kind=116
     ·simp[a4,v,xB]
     simp[a1,a2,a3,a4,v,xB]
    have S5:kind≠20->(kind !=20)=true:=fun h=>kO h;have ZX:kind≠52->(kind !=52)=true:=fun h=>kO h;have OS:kind≠100->(kind !=100)=true:=fun h=>kO h;have ZY:kind≠116->(kind !=116)=true:=fun h=>kO h
    have U:∀ n,H.length+6<=n->aX n C=C:=fun n D=>by
     rw[K];simp[aX,V.cl,show H.length<n by omega,show H.length+1<n by omega,show H.length+2<n by omega,show H.length+3<n by omega,show H.length+4<n by omega]
    have h3:Bk (H++[some (.cells [.ptr b 0]),some (.cells [.int .i64 kind]),some (.cells [.int .i64 f]),some (.cells [.int .i64 g]),some (.cells [.bool l]),some (.cells C)]) b z m L:=h.qP fun n D=>by simp at D;simp[aw.cl,aX,V.cl,U n an];exact X n an
    obtain⟨j,q⟩:∃ j:List Nd->ae,∀ L',j L'=dC H b z m L'++[some (.cells [.ptr b 0]),some (.cells [.int .i64 kind]),some (.cells [.int .i64 f]),some (.cells [.int .i64 g]),some (.cells [.bool l]),some (.cells C)]:=⟨_,fun _=>rfl⟩
    have bL:j L=H++[some (.cells [.ptr b 0]),some (.cells [.int .i64 kind]),some (.cells [.int .i64 f]),some (.cells [.int .i64 g]),some (.cells [.bool l]),some (.cells C)]:=by rw[q,T]
    have bU:∀ L':List Nd,j L'=dC (H++[some (.cells [.ptr b 0]),some (.cells [.int .i64 kind]),some (.cells [.int .i64 f]),some (.cells [.int .i64 g]),some (.cells [.bool l]),some (.cells C)]) b z m L':=fun L'=>by rw[h.cf,q]
    have bB:∀ L':List Nd,Inv L'->L'.length<=1000000->Bk (j L') b z m L':=fun L' qq nG=>by rw[bU];exact h3.to qq nG
    have W:∀ d L2:List Nd,dC (j d) b z m L2=j L2:=fun d L2=>by rw[bU,bU,h3.mb]
    have R:∀ L':List Nd,(j L').length=H.length+6:=fun L'=>by rw[q];simp[r6]
    have g0:∀(L':List Nd) (r:ae),(dC H b z m L'++r)[H.length]?=r[0]?:=fun L' r=>by rw[<-r6 H b z m L',la]
    have S:∀(L':List Nd) (r:ae) (k:Nat),(dC H b z m L'++r)[H.length+k]?=r[k]?:=fun L' r k=>by
     have:=iq (dC H b z m L') r k;rwa[r6] at this
    have sk:∀(L':List Nd) (r:ae) (k:Nat) (x:Option aw),(dC H b z m L'++r).set (H.length+k) x=dC H b z m L'++r.set k x:=fun L' r k x=>by
     have:=xq (dC H b z m L') r k x;rwa[r6] at this
    have M:∀ L',(j L')[H.length]?=some (some (.cells [.ptr b 0])):=fun L'=>by rw[q,g0];rfl
    have q1:∀ L',(j L')[H.length+1]?=some (some (.cells [.int .i64 kind])):=fun L'=>by rw[q,S];rfl
    have N:∀ L',(j L')[H.length+2]?=some (some (.cells [.int .i64 f])):=fun L'=>by rw[q,S];rfl
    have O:∀ L',(j L')[H.length+3]?=some (some (.cells [.int .i64 g])):=fun L'=>by rw[q,S];rfl
    have q4:∀ L',(j L')[H.length+4]?=some (some (.cells [.bool l])):=fun L'=>by rw[q,S];rfl
    have q5:∀ L',(j L')[H.length+5]?=some (some (.cells C)):=fun L'=>by rw[q,S];rfl
    have iw:=hi.cJ f a Y;have uU:=hi.cJ g c Z;have P:=ZW (kind:=kind) hi iw.1 uU.1 iw.2.1 uU.2.1;obtain⟨d,E⟩:∃ d,d=(kc L kind a c).2.2:=⟨_,rfl⟩;rw[<-E] at P;have l1:=P.len;have k0:=bB L hi an;have k1:=bB d P.inv an;have qA:=P.get Y;have zf:=P.get Z;have cx:=ztl qA;have cy:=ztl zf
    have tr:∀(L':List Nd),Inv L'->L'.length<=1000000->∀ r,aj (H.length+6) (j L'++r)=j L':=fun L' qq nG r=>by
     have:=(bB L' qq nG).shut.back r;rwa[R] at this
    have hb:=tr L hi an;have he:=tr d P.inv an
    have hf:aj (H.length+6) (j L)=j L:=by simpa using hb []
    have S6:aj (H.length+6) (j d)=j d:=by simpa using he []
    have hg:∀ L' r,aj H.length (j L'++r)=dC H b z m L':=fun L' r=>by rw[q,aaT];exact h.back L' _
    have iM:∀ L',aj H.length (j L')=dC H b z m L':=fun L'=>by simpa using hg L' []
    obtain⟨I,OT,S7⟩:∃ I:Nat->List Nd,I 0=L/\∀ i,I (i+1)=d:=⟨fun i=>match i with|0=>L|_+1=>d,rfl,fun _=>rfl⟩
    have C0:C.take 1=[.fn 270 [.ptr H.length 0,.ptr (H.length+1) 0,.ptr (H.length+2) 0,.ptr (H.length+3) 0]]:=by rw[K];rfl
    have C1:C.tail.take 1=[.fn 271 [.ptr H.length 0,.ptr (H.length+1) 0,.ptr (H.length+2) 0,.ptr (H.length+3) 0]]:=by rw[K];rfl
    have C2:(C.drop 2).take 1=[.fn 272 [.ptr H.length 0,.ptr (H.length+1) 0,.ptr (H.length+2) 0,.ptr (H.length+3) 0]]:=by rw[K];rfl
    have C3:(C.drop 3).take 1=[.fn 273 [.ptr (H.length+4) 0,.ptr H.length 0,.ptr (H.length+1) 0,.ptr (H.length+3) 0,.ptr (H.length+2) 0]]:=by rw[K];rfl
    have lC:C.length=4:=by rw[K];rfl
    have A1:=zFH (G:=G) (kind:=kind) k0 an Y Z iw.2.1 uU.2.1 (M L) (q1 L) (N L) (O L);have A2:=zFI (G:=G) (kind:=kind) k1 an qA zf iw.2.1 uU.2.1 (M d) (q1 d) (N d) (O d);have A3:=zFJ (G:=G) (kind:=kind) k1 (M d) (q1 d) (N d) (O d);have A4:=zFK (G:=G) (kind:=kind) l k1 (q4 d) (M d) (q1 d) (N d) (O d);rw[<-E,W] at A1;rw[W] at A2;rw[cy] at A3;rw[cx] at A4
    have OU:I 1=d:=S7 0;have OV:I 2=d:=S7 1;have OW:I 3=d:=S7 2;have Ez:I 4=d:=S7 3;have Ho:aE .i64 0 1=1:=rfl;have Fo:aE .i64 1 1=2:=rfl;have hj:aE .i64 2 1=3:=rfl;have hl:aE .i64 3 1=4:=rfl;have ti:∀(u w:Nat) (r:List (Nat×V)),oh (ib ((80,.int .i64 w)::(79,.int .i64 u)::(78,.int .i64 kind)::r)) sj.cs [(0,1,.c (.int .i64 2)),(57,1,.t 78),(58,1,.t 79),(59,1,.t 80)]=some (z_ kind u w).cs:=fun _ _ _=>rfl
    have hd:=h.to P.inv an
    have s:∀ u w:Nat,sC L kind f g a c=ba d (z_ kind u w) ->
      SF G 259 [.ptr b 0,.agg (z_ kind u w).cs] (dC H b z m d++[some (.cells [.ptr b 0]),some (.cells [.int .i64 kind]),some (.cells [.int .i64 u]),some (.cells [.int .i64 w]),some (.cells [.bool l]),some (.cells C)]) (.int .i64 (sC L kind f g a c).1)
       (dC H b z m (sC L kind f g a c).2++[some (.cells [.ptr b 0]),some (.cells [.int .i64 kind]),some (.cells [.int .i64 u]),some (.cells [.int .i64 w]),some (.cells [.bool l]),some (.cells C)]):=fun u w o=>by
     have hm:Bk (dC H b z m d++[some (.cells [.ptr b 0]),some (.cells [.int .i64 kind]),some (.cells [.int .i64 u]),some (.cells [.int .i64 w]),some (.cells [.bool l]),some (.cells C)]) b z m d :=
      hd.qP fun n D=>by simp[r6] at D;simp[aw.cl,aX,V.cl,U n an];exact X n an
     have:=K3 (G:=G) (z_ kind u w) ⟨rfl,rfl,rfl⟩ hm an;rw[hd.cf,h.mb] at this;rw[o];exact this
    have w8:∀(L':List Nd) (r:ae),aj H.length (dC H b z m L'++r)=dC H b z m L':=fun L' r=>h.back L' r
    rcases c5 with⟨hk,A⟩|⟨hk,A⟩|⟨hk,A⟩|⟨hk,A⟩|⟨⟨z1,z2,z3,z4⟩,A⟩
    all_goals
     first
      | simp[S5 z1,ZX z2,OS z3,ZY z4]
      | simp[Br (show kind=20 by omega)]
      | simp[S5 an,Br (show kind=52 by omega)]
      | simp[S5 an,ZX an,Br (show kind=100 by omega)]
      | simp[S5 an,ZX an,OS an,Br (show kind=116 by omega)]
     rw[A] at bL;rw[<-K,<-bL]
     refine aQ 4 (fun i=>[(4,.ptr H.length 0),(5,.ptr (H.length+1) 0),(6,.ptr (H.length+2) 0),(7,.ptr (H.length+3) 0),(11,.ptr (H.length+4) 0),(55,.rs (H.length+5) 0 4 1),(56,.int .i64 4),(57,.int .i64 i)])
      (fun i=>j (I i)) (fun i=>(0<i->(kc L kind a c).2.1=false)/\(1<i->(lh d kind a c).2.1=false)/\(2<i->(kH kind (p7 c) f g).2=false)/\(3<i->(l&&(kH kind (p7 a) g f).2)=false)) ?_ ?_
     ·simp[av,R,hf,OT]
     intro i tO B
     by_cases ai:i<4
     ·rcases(show i=0\/i=1\/i=2\/i=3 by omega) with rfl|rfl|rfl|rfl
      ·simp[OT,q5,C0,lC];refine S3 A1 ?_
       cases F:(kc L kind a c).2.1 with
       | true =>
        have o:sC L kind f g a c=((kc L kind a c).1,d):=by rw[E,sC];simp only[F,if_true]
        simp[o,iM]
       | false =>
        simp[R,av,S6,OU,Ho]
      ·have p1:=B.1 an;simp[OU,q5,C1,lC];refine S3 A2 ?_
       cases F:(lh d kind a c).2.1 with
       | true =>
        have o:sC L kind f g a c=((lh d kind a c).1,(lh d kind a c).2.2):=by rw[sC];simp only[p1,<-E,F,if_true,aav,if_false]
        simp[o,iM]
       | false =>
        have eL:=zFG d kind a c F;simp[p1,R,av,S6,OV,eL,Fo]
      ·have p1:=B.1 an;have p2:=B.2.1 an;simp[OV,q5,C2,lC];refine S3 A3 ?_
       cases F:(kH kind (p7 c) f g).2 with
       | true =>
        have o:sC L kind f g a c=((kH kind (p7 c) f g).1,d):=by rw[sC];simp only[p1,p2,<-E,F,if_true,aav,if_false]
        simp[o,iM]
       | false =>
        simp[p1,p2,R,av,S6,OW,hj]
      ·have p1:=B.1 an;have p2:=B.2.1 an;have p3:=B.2.2.1 an;simp[OW,q5,C3,lC];refine S3 A4 ?_
       cases F:(l&&(kH kind (p7 a) g f).2) with
       | true =>
        have HU:xB kind=true/\(kH kind (p7 a) g f).2=true:=by rw[<-v];simpa using F
        have o:sC L kind f g a c=((kH kind (p7 a) g f).1,d):=by rw[sC];simp only[p1,p2,p3,<-E,HU,if_true,aav,if_false,and_self]
        have Q:l=true:=by rw[v];exact HU.1
        simp[o,iM,Q]
       | false =>
        simp[p1,p2,p3,R,av,S6,Ez,hl]
        exact fun hh=>by simpa[hh] using F
     ·obtain rfl:i=4:=by omega
      have p1:=B.1 an;have p2:=B.2.1 an;have p3:=B.2.2.1 an;have p4:=B.2.2.2 an
      first
       | (
         have Q:xB kind=false:=by rw[<-v];exact A
         have o:sC L kind f g a c=ba d (z_ kind f g):=by rw[sC];simp only[p1,p2,p3,<-E,Q,aav,if_false,false_and]
         simp[Ez,q4,N,O,q1,M,A];rw[q];simp[-oh];refine cL (s f g o) ?_
         simp[w8])
       | (
         have ho:¬(xB kind=true/\(kH kind (p7 a) g f).2=true):=fun hh=>by rw[v,hh.1,hh.2] at p4;cases p4
         have Q:xB kind=true:=by rw[<-v];exact A
         have p5:(kH kind (p7 a) g f).2=false:=by cases e:(kH kind (p7 a) g f).2 with|false=>rfl|true=>exact absurd ⟨Q,e⟩ ho
         by_cases IQ:g<f
         ·have o:sC L kind f g a c=ba d (z_ kind g f):=by rw[sC];simp only[p1,p2,p3,<-E,p5,Q,IQ,if_true,aav,if_false,and_false,and_self]
          simp[Ez,q4,N,O,q1,M,A,IQ];rw[q];simp[-oh,nz,S,sk,ti];refine cL (s g f o) ?_;simp[w8]
         ·have o:sC L kind f g a c=ba d (z_ kind f g):=by rw[sC];simp only[p1,p2,p3,<-E,p5,Q,IQ,aav,if_false,and_false]
          simp[Ez,q4,N,O,q1,M,A,IQ];rw[q];simp[-oh];refine cL (s f g o) ?_
          simp[w8])
open Go Go.RowKit
variable {G:aM}
variable {H:ae} {b z m:Nat} {L:List Nd}
def zE(L:List Nd):Int×List Nd:=ba L (eZ (0::aP 34))
noncomputable def nV(L:List Nd)(x:Int):Int×List Nd:=if cA L x=true then ik (zE L).2 20 (zE L).1 x else(-1,L)
def S8(h:Inv L):Ext L (zE L).2 1:=(wB h (zD ir (CM (by decide)) _)).1
def zFL[dR G][ar G][bG G][aK G](x:Int)(h:Bk H b z m L)(hi:Inv L)(l:L.length<999980):BF G 275 [.int .i64 x] H b z m (nV L x):=by
 refine ke aK.aep (aaa rfl) ?_;have g:=h.shut.self;have i:=h.fW;simp;refine cL (G1 x h) ?_
 cases e:cA L x with
 | false =>
  have c:nV L x=(-1,L):=by rw[nV,if_neg (by simp[e])]
  simp[c,g,i]
 | true =>
  have c:nV L x=ik (zE L).2 20 (zE L).1 x:=by rw[nV,if_pos e]
  have d:=S8 hi;have n:=d.len;have j:=h.to d.inv an;simp;have k:=Lf (G:=G) 0 h an;refine cL k ?_;have f:=S4 (G:=G) 20 (zE L).1 x j d.inv an;rw[BF,h.mb] at f;have a:=h.back (ik (zE L).2 20 (zE L).1 x).2 [];simp at a;simp;refine cL f ?_;simp[c,a]
def gB(kind:Int)(o o':Option Nat):Option Nat:=match o,o' with
 | some l,some r=>if(dm kind l r).2=true then some (dm kind l r).1 else none
 | _,_=>none
noncomputable def fZ(v:List Nat)(b:List (Option Nat))(a:Nd):Option Nat :=
 if a.kind=0 then some (jY a.f v) else if a.kind=1 then(gg a).map fun p=>val p.1 p.2 (pQ v)
 else gB a.op b[a.x]?.join b[a.y]?.join
noncomputable def di(v:List Nat)(L:List Nd):List (Option Nat):=L.foldl (fun b a=>b++[fZ v b a]) []
section
variable {v:List Nat}
def ztm(L:List Nd)(a:Nd):di v (L++[a])=di v L++[fZ v (di v L) a]:=by simp[di]
def wC:∀ L:List Nd,(di v L).length=L.length:=by
 intro L
 have:∀(L:List Nd) (b:List (Option Nat)),(L.foldl (fun b a=>b++[fZ v b a]) b).length=b.length+L.length:=fun L=>by
  induction L with
  | nil=>intro b;rfl
  | cons a L c=>intro b;simp only[abZ,c];simp;omega
 simpa[di] using this L []
def zC3:∀(L M:List Nd),di v L <+: di v (L++M):=by
 intro L M
 have:∀(M:List Nd) (b:List (Option Nat)),b <+: M.foldl (fun b a=>b++[fZ v b a]) b:=fun M=>by
  induction M with
  | nil=>intro b;exact acx _
  | cons a M c=>intro b;exact(acr _ _).trans (c _)
 rw[di,di,List.foldl_append];exact this M _
def zvq{L L':List Nd}(h:L <+: L'):di v L <+: di v L':=by obtain⟨M,rfl⟩:=h;exact zC3 L M
def Lg(L:List Nd)(i:Nat):(di v L).take i=di v (L.take i):=by
 have h:=zvq (v:=v) (List.take_prefix i L);obtain⟨t,a⟩:=h
 by_cases hi:i<=L.length
 ·rw[<-a,aaK (by rw[wC,aaw];omega)]
 ·rw[aaq (by rw[wC];omega),aaq an]
def zxz{i:Nat}{a:Nd}(h:L[i]?=some a):(di v L)[i]?=some (fZ v (di v (L.take i)) a):=by
 have d:=(aal.1 h).1
 have e:L.take (i+1)=L.take i++[a]:=by rw[aaI,h];rfl
 have b:=Lg (v:=v) L (i+1);rw[e,ztm] at b
 have c:((di v L).take (i+1))[i]?=(di v L)[i]?:=by rw[aaG];simp
 rw[<-c,b,aap (by rw[wC,aaw];omega),wC,aaw];rw[show i-min i L.length=0 by omega];rfl
end
def zvr(f v:List Nat):jY f v<4294967296:=ab9 _ (by decide)
def ZZ{v:List Nat}{k i:Nat}{o:Option Nat}(hi:Inv L)(h:(di v (L.take k))[i]?=some o):o.getD 0<4294967296:=by
 have a:∀(i:Nat) (o:Option Nat),(di v L)[i]?=some o->o.getD 0<4294967296:=fun i=>by
  induction i using Nat.strongRecOn with
  | _ i n =>
   intro o m;have q:=(aal.1 m).1;rw[wC] at q;have s:=kP q;rw[zxz s] at m;cases m;have B:=hi.cJ i _ s
   have b:∀ j,j<i->(di v (L.take i))[j]?=(di v L)[j]?:=fun j C=>by rw[<-Lg,aaG,if_pos C]
   rw[fZ];split
   ·exact zvr _ _
   ·split
    ·cases e:gg L[i] with
     | none=>simp
     | some p=>simp only[ab0,aa5];exact zHb _ _ _
    ·rcases B.2.2 with h|h|⟨_,t,u,_⟩
     ·contradiction
     ·contradiction
     ·unfold gB;split
      ·rename_i l r c d;split
       ·rw[b _ t] at c;rw[b _ u] at d
        obtain⟨f,D,E⟩:∃ f,(di v L)[L[i].x]?=some f/\f=some l:=by
         cases e:(di v L)[L[i].x]? with
         | none=>rw[e] at c;cases c
         | some f=>rw[e] at c;exact⟨f,rfl,c⟩
        obtain⟨g,F,G⟩:∃ g,(di v L)[L[i].y]?=some g/\g=some r:=by
         cases e:(di v L)[L[i].y]? with
         | none=>rw[e] at d;cases d
         | some g=>rw[e] at d;exact⟨g,rfl,d⟩
        have w:=n _ t _ D;have z:=n _ u _ F;rw[E] at w;rw[G] at z;exact Sl _ w z
       ·simp
      ·simp
 by_cases A:i<k
 ·rw[<-Lg,aaG,if_pos A] at h;exact a i o h
 ·rw[<-Lg,aaG,if_neg A] at h;cases h
noncomputable def dj(v:List Nat)(L:List Nd)(x:Int):Option Nat:=if cA L x=true then(di v L)[x.toNat]?.join else none
def kn(l:List (Option Nat)):List V:=(l.map fun o=>[V.int .u32 (o.getD 0:Nat),.bool o.isSome]).flatten
def OY(l:List (Option Nat)):(kn l).length=2*l.length:=by
 induction l with
 | nil=>rfl
 | cons o l a=>simp[kn] at a |-;omega
def Z0:∀(l:List (Option Nat)) (i:Nat),(kn l).drop (2*i)=kn (l.drop i)
 | [],i=>by simp[kn]
 | o::l,0=>rfl
 | o::l,i+1=>by
  have e:kn (o::l)=[V.int .u32 (o.getD 0:Nat),.bool o.isSome]++kn l:=rfl;have a:([V.int .u32 (o.getD 0:Nat),.bool o.isSome]++kn l).drop 2=kn l:=rfl;rw[e,show 2*(i+1)=2+2*i by omega,<-aaQ,a,Z0 l i];rfl
def zxA:∀(l:List (Option Nat)) (i:Nat),(kn l).take (2*i)=kn (l.take i)
 | [],i=>by simp[kn]
 | o::l,0=>rfl
 | o::l,i+1=>by
  have e:kn (o::l)=[V.int .u32 (o.getD 0:Nat),.bool o.isSome]++kn l:=rfl;rw[e,show 2*(i+1)=2*i+1+1 by omega];show V.int .u32 (o.getD 0:Nat)::.bool o.isSome::(kn l).take (2*i)=_;rw[zxA l i];rfl
def Z1{l:List (Option Nat)}{i:Nat}{o:Option Nat}(h:l[i]?=some o):((kn l).drop (2*i)).take 2=[V.int .u32 (o.getD 0:Nat),.bool o.isSome]:=by rw[Z0];obtain⟨a,rfl⟩:=aal.1 h;rw[aa2 a];rfl
def zHd{l:List (Option Nat)}{i:Nat}(h:i<l.length)(o:Option Nat):(kn l).take (2*i)++([V.int .u32 (o.getD 0:Nat),.bool o.isSome]++(kn l).drop (2*i+2))=kn (l.set i o):=by rw[zxA,show 2*i+2=2*(i+1) by omega,Z0,List.set_eq_take_append_cons_drop,if_pos h];simp[kn]
def zEu(l:List (Option Nat))(n:Nat):aX n (kn l)=kn l:=by
 induction l with
 | nil=>rfl
 | cons o l a =>
  have e:kn (o::l)=.int .u32 (o.getD 0:Nat)::.bool o.isSome::kn l:=rfl;rw[e];simp[aX,V.cl,a]
def zAS[dR G][ar G][hB:ja G][aK G][cZ G](x:Int)(v:List Nat)(h:Bk H b z m L)(hi:Inv L)(D:v.length=34)(rU:∀ c∈v,c<4294967296) :
  SF G 276 [.ptr b 0,.int .i64 x,.agg (au .u32 v)] H (.a_ [.int .u32 ((dj v L x).getD 0:Nat),.bool (dj v L x).isSome]) H:=by
 refine ke cZ.aeq (aaa rfl) ?_;have Ge:=fe (k:=.u32) D
 have h1:Bk (H++[some (.cells (au .u32 v))]) b z m L:=h.app fun n=>by simp[aw.cl]
 have rT:=h1.shut.self;have fH:=h.shut.back;have ai:=h.lb;have hb:=h.cS
 have iW:∀ r:ae,(H++r)[b]?=some (some (.cells [.vs (sm L) (.own z),.mp m])):=fun r=>by rw[aam ai];exact hb
 have Aq:=h.small;simp at rT;simp;refine cL (G1 x h1) ?_
 cases U:cA L x with
 | false=>simp[dj,U,fH]
 | true =>
  obtain⟨rM,xQ⟩:0<=x/\x<L.length:=by simpa[cA] using U
  obtain⟨n,rfl⟩:=aat rM
  have hn:n<L.length:=an
  have Z2:(∀ f∈sm L,f.length=60)=True:=eq_true (zAL h.ok);obtain⟨S,W⟩:∃ S,S=(sm L).take (n+1):=⟨_,rfl⟩
  have yz:S.length=n+1:=by rw[W];simp;omega
  have X:∀(i:Nat) (a:Nd),i<n+1->L[i]?=some a->S[i]?=some a.cs:=fun i a hi u=>by rw[W,aaG,if_pos hi,YZ u]
  have zi:(aaF (n+1) [V.int .u32 0,V.bool false]).flatten=kn (aaF (n+1) none):=by simp[kn]
  simp(disch:=omega)[iW,iq,bH,-aab,pa,aC,Z2,<-W,yz,zi];obtain⟨T,B⟩:∃ T:Nat->List (Option Nat),∀ i,T i=di v (L.take i)++aaF (n+1-i) none:=⟨_,fun _=>rfl⟩
  have T0:T 0=aaF (n+1) none:=by rw[B];simp[di]
  have Tl:∀ i,i<=n+1->(T i).length=n+1:=fun i hi=>by rw[B];simp[wC];omega
  have Y:∀ i j,i<=n+1->j<i->(T i)[j]?=(di v (L.take i))[j]?:=fun i j hi hj=>by rw[B,aam (by simp[wC];omega)]
  have Ts:∀(i:Nat) (a:Nd),i<n+1->L[i]?=some a->(T i).set i (fZ v (di v (L.take i)) a)=T (i+1):=fun i a hi u=>by
   have e:L.take (i+1)=L.take i++[a]:=by rw[aaI,u];rfl
   have E:(di v (L.take i)).length=i:=by rw[wC];simp;omega
   rw[B,B,e,ztm,aay _ _ an,E,abA,show n+1-i=(n+1-(i+1))+1 by omega,aa6,abn,aaT];rfl
  obtain⟨g,F⟩:∃ g:Nat->ae,∀ i,g i=H++[some (.cells (au .u32 v)),some (.cells (kn (T i)))]:=⟨_,fun _=>rfl⟩
  have EA:∀ i,Bk (g i) b z m L:=fun i=>by rw[F];exact h.app fun n=>by simp[aw.cl,zEu]
  have bl:∀ i,(g i).length=H.length+2:=fun i=>by rw[F];simp
  have tr:∀ i r,aj (H.length+2) (g i++r)=g i:=fun i r=>by have:=(EA i).shut.back r;rwa[bl] at this
  have I:∀ i r,aj (H.length+2) (H++some (.cells (au .u32 v))::some (.cells (kn (T i)))::r)=g i:=fun i r=>by have:=tr i r;rw[F] at this |-;simpa using this
  refine aQ (n+1) (fun i=>[(0,.ptr b 0),(1,.int .i64 n),(5,.ptr H.length 0),(8,.rs (H.length+1) 0 (n+1) 2),(32,.vs S .no),(33,.int .i64 (n+1:Nat)),(34,.int .i64 i)]) g (fun _=>True) ?_ ?_
  ·have:=I 0 [];have w:(b<H.length+2)=True:=eq_true an;simp[av,<-T0,this,w]
  intro i hu _
  by_cases OZ:i<n+1
  ·obtain⟨a,u⟩:∃ a,L[i]?=some a:=⟨_,kP an⟩;have hg:=X i a OZ u;have q:=hi.cJ i a u;have E:=Nd.len q.1;have fc:a.cs.take 60=a.cs:=aaq an;have uG:sj.cs.drop 60=[]:=rfl;have rC:sj.cs.length=60:=rfl;have xW:S[i]' an=a.cs:=(aal.1 hg).2;have t1:a.cs.take 1=[.int .i64 (a.kind:Int)]:=rfl
   have Z:a.cs.tail.take 35=au .u32 a.f:=by show(au .u32 a.f++_).take 35=_;rw[aaK (by simp[q.1.1])]
   have eE:=Ts i a OZ u;have C:=Tl i an;have s:=zHd (l:=T i) (i:=i) an (fZ v (di v (L.take i)) a);rw[eE,abC 2 i] at s;have iH:((i:Int)<(n:Int)+1)=True:=eq_true an;have w:(b<H.length+2)=True:=eq_true an
   have VG:i*2+2<=2*(n+1):=an
   rw[F];simp(disch:=omega)[bM,xW,E,fc,uG,rC,nz,iq,aC,leFn,t1];have K:∀ r,aj (H.length+2) (H++some (.cells (au .u32 v))::some (.cells (kn (T (i+1))))::r)=g (i+1):=fun r=>I (i+1) r
   by_cases M:a.kind=0
   ·have N:((a.kind:Int)==0)=true:=DZ an
    have t:fZ v (di v (L.take i)) a=some (jY a.f v):=by rw[fZ,if_pos M]
    rw[t] at s;simp only[aa5,abH,aaL,aba] at s;simp(disch:=omega)[N,Z,la,iq,aC,leFn,E,D,Ge];refine ax (zCX a.f v q.1.1 D q.2.1.1) ?_;simp(disch:=omega)[iq,aC,C,OY,gO,s,K,av,w,bH,-aab]
   ·have N:((a.kind:Int)==0)=false:=aO an
    by_cases O:a.kind=1
    ·have ll:((a.kind:Int)==1)=true:=DZ an
     obtain⟨p,hp⟩:∃ p,gg a=some p:=by rw[gg,if_pos O];exact⟨_,rfl⟩
     obtain⟨P,xR⟩:=G3 q.2.1 hp
     have t:fZ v (di v (L.take i)) a=some (val p.1 p.2 (pQ v)):=by rw[fZ,if_neg M,if_pos O,hp];rfl
     rw[t] at s;simp only[aa5,abH,aaL,aba] at s;have hw:=P.1;have hy:=Ch P.1 P.2.1;have Z3:=zFl hB p.1 p.2 v an an xR D rU;rw[F4.2 P,if_pos rfl] at Z3;simp only[FV] at Z3;simp(disch:=omega)[N,ll];refine cL (G2 i a (h.app (r:=[some (.cells (au .u32 v)),some (.cells (kn (T i))),some (.cells a.cs),none]) fun n=>by simp[aw.cl,zEu,Nd.lD]) u q.2.1) ?_;simp(disch:=omega)[hp,sv,FV,la,iq,leFn,D,Ge]
     refine ax Z3 ?_;simp(disch:=omega)[iq,aC,C,OY,gO,s,K,av,w,bH,-aab]
    ·have ll:((a.kind:Int)==1)=false:=aO an
     obtain⟨DL,hc,he,bg⟩:a.kind=2/\a.x<i/\a.y<i/\(dm a.op 0 1).2=true:=by rcases q.2.2 with h|h|h;exact absurd h M;exact absurd h O;exact h
     have hf:a.cs=(.int .i64 (a.kind:Int)::(au .u32 a.f++.int .i64 (a.n:Int)::(au .i64 a.vars++au .u32 a.tab)))++[.int .i64 a.op,.int .i64 (a.x:Int),.int .i64 (a.y:Int)]:=by simp[Nd.cs]
     have hh:(V.int .i64 (a.kind:Int)::(au .u32 a.f++.int .i64 (a.n:Int)::(au .i64 a.vars++au .u32 a.tab))).length=57:=by simp[q.1.1,q.1.2.1,q.1.2.2]
     have A:a.cs.drop 57=[.int .i64 a.op,.int .i64 (a.x:Int),.int .i64 (a.y:Int)]:=by rw[hf];exact aaZ hh
     have hm:(a.cs.drop 58).take 1=[.int .i64 (a.x:Int)]:=by rw[show 58=57+1 from rfl,<-aaQ,A];rfl
     have hq:(a.cs.drop 59).take 1=[.int .i64 (a.y:Int)]:=by rw[show 59=57+2 from rfl,<-aaQ,A];rfl
     have Z4:(a.cs.drop 57).take 1=[.int .i64 a.op]:=by rw[A];rfl
     obtain⟨Q,O0⟩:∃ o,(di v (L.take i))[a.x]?=some o:=⟨_,kP (by rw[wC,aaw];omega)⟩;obtain⟨R,EC⟩:∃ o,(di v (L.take i))[a.y]?=some o:=⟨_,kP (by rw[wC,aaw];omega)⟩;have gx:=Z1 (l:=T i) (i:=a.x) (o:=Q) (by rw[Y i a.x an hc,O0]);have gy:=Z1 (l:=T i) (i:=a.y) (o:=R) (by rw[Y i a.y an he,EC]);rw[abC] at gx gy;have hr:((a.x:Int)<(n:Int)+1)=True:=eq_true an;have QP:((a.y:Int)<(n:Int)+1)=True:=eq_true an
     have hs:H.length+3+1=H.length+4:=rfl;simp(disch:=omega)[N,ll,iq,aC,leFn,E,Z4,hm,hq,hr,QP,OY,C,gx,gy,hs];have wI:=KZ (G:=G) (by infer_instance) a.op (Q.getD 0) (R.getD 0) (ZZ hi O0) (ZZ hi EC);refine ax wI ?_;simp(disch:=omega)[iq,leFn]
     have t:fZ v (di v (L.take i)) a=gB a.op Q R:=by rw[fZ,if_neg M,if_neg O,O0,EC];rfl
     have d:fZ v (di v (L.take i)) a=none->T (i+1)=T i:=fun e=>by
      rw[e] at eE;rw[<-eE];apply Dm;rw[B,aap (by rw[wC,aaw];omega),wC,aaw,abt,if_pos an]
     have S1:T (i+1)=T i->∀ r,aj (H.length+2) (H++some (.cells (au .u32 v))::some (.cells (kn (T i)))::r)=g (i+1):=fun e r=>by rw[<-e];exact K r
     cases Q with
     | none =>
      have J:=S1 (d t)
      simp(disch:=omega)[J,gO,av,w,bH,-aab]
     | some l =>
      cases R with
      | none =>
       have J:=S1 (d t)
       simp(disch:=omega)[J,iq,leFn,gO,av,w,bH,-aab]
      | some r =>
       cases hd:(dm a.op l r).2 with
       | false =>
        have J:=S1 (d (by rw[t,gB];simp only[hd,aav,if_false]))
        simp(disch:=omega)[hd,J,iq,leFn,gO,av,w,bH,-aab]
       | true =>
        rw[gB] at t;simp only[hd,if_true] at t;rw[t] at s;simp only[aa5,abH,aaL,aba] at s;simp(disch:=omega)[hd,iq,aC,leFn,C,OY,gO,s,K,av,w,bH,-aab]
  ·obtain rfl:i=n+1:=by omega
   obtain⟨o,ho⟩:∃ o,(di v L)[n]?=some o:=⟨_,kP (by rw[wC];omega)⟩
   have O2:dj v L n=o:=by rw[dj,if_pos U];simp[ho]
   have ht:(T (n+1))[n]?=some o:=by rw[Y (n+1) n an an,<-Lg,aaG,if_pos an,ho]
   have Lh:=Z1 ht;rw[abC] at Lh;have C:=Tl (n+1) an;rw[F];have iH:((n:Int)<(n:Int)+1)=True:=eq_true an
   have k1:((kn (T (n+1))).drop (n*2)).take 1=[.int .u32 (o.getD 0:Nat)]:=by have:=congrArg (List.take 1) Lh;rwa[List.take_take] at this
   have k2:((kn (T (n+1))).drop (n*2+1)).take 1=[.bool o.isSome]:=by have:=congrArg (List.drop 1) Lh;rw[List.drop_take,aaQ] at this;exact this
   simp(disch:=omega)[O2,iq,aC,OY,C,iH,k1,k2,fH]
open Go Go.RowKit
variable {G:aM}
structure Md where
 kind:Int
 i:Int
 op:Int
 x:Int
 y:Int
 c:Nat
def Md.cs(a:Md):List V:=[.int .i64 a.kind,.int .i64 a.i,.int .i64 a.op,.int .i64 a.x,.int .i64 a.y,.int .u32 (a.c:Int)]
def mds(l:List Md):List (List V):=l.map Md.cs
@[simp] theorem zLV (l:List Md):(mds l).length=l.length:=by simp[mds]
def U3(l:List Md)(i:Int):Bool:=decide (0<=i/\i<l.length)&&(match l[i.toNat]? with|some a=>decide (a.kind≠4)|none=>false)
def Z5(v:List Nat)(b:List (Option Nat))(a:Md):Option Nat :=
 if a.kind=0 then some a.c else if a.kind=1 then some (v[a.i.toNat]?.getD 0) else if a.kind=2 then gB a.op b[a.x.toNat]?.join b[a.y.toNat]?.join
 else if a.kind=3 then(b[a.x.toNat]?.join).map sh else none
def refs(v:List Nat)(l:List Md):List (Option Nat):=l.foldl (fun b a=>b++[Z5 v b a]) []
section
variable {v:List Nat} {l:List Md}
def UU(l:List Md):Prop:=∀(i:Nat) (a:Md),l[i]?=some a->a.c<4294967296/\(a.kind=0\/a.kind=1/\0<=a.i/\a.i<34\/a.kind=2/\0<=a.x/\a.x<i/\0<=a.y/\a.y<i\/a.kind=3/\0<=a.x/\a.x<i\/a.kind=4)
end
open Go Go.RowKit
variable {G:aM}
variable {H:ae} {b z m:Nat} {L:List Nd}
def U4(l:List Int)(i:Int):Int:=if 0<=i/\i<l.length then l[i.toNat]?.getD 0 else -1
structure MS where
 L:List Nd
 ids:List Int
 made:List Md
def zvu{kind:Int}{a c:Nd}(h:Inv L)(i:a.wf)(j:c.wf):Ext L (lh L kind a c).2.2 1:=by
 cases b:gg a with
 | none=>simp only[lh,b,lg];exact .refl h 1
 | some p =>
  cases d:gg c with
  | none=>simp only[lh,b,d,lg];exact .refl h 1
  | some q =>
   cases e:zC kind p q with
   | none=>simp only[lh,b,d,e,lg];exact .refl h 1
   | some r =>
    simp only[lh,b,d,e,mO];obtain⟨_,f,g,_⟩:=SY e;exact(zvp h f g).1
def Z6{kind:Int}{x y n:Nat}(a:(dm kind 0 1).2=true)(b:x<n)(c:y<n):(z_ kind x y).cJ n :=
 ⟨⟨rfl,rfl,rfl⟩,⟨wF 35,fun h=>by cases h⟩,.inr (.inr ⟨rfl,b,c,a⟩)⟩
def Z7{kind x y:Int}(h:Inv L):Ext L (ik L kind x y).2 2:=by
 rw[ik];split
 case isFalse=>exact .refl h 2
 rename_i d;obtain⟨d,j,k⟩:=d
 obtain⟨l,q⟩:0<=x/\x<L.length:=by simpa[cA] using j
 obtain⟨m,r⟩:0<=y/\y<L.length:=by simpa[cA] using k
 obtain⟨n,rfl⟩:=aat l;obtain⟨o,rfl⟩:=aat m;obtain⟨a,g⟩:∃ a,L[n]?=some a:=⟨_,kP an⟩;obtain⟨c,i⟩:∃ c,L[o]?=some c:=⟨_,kP an⟩;have e:=h.cJ _ _ g;have f:=h.cJ _ _ i;simp only[aa0,g,i,sC];have b:=ZW (kind:=kind) h e.1 f.1 e.2.1 f.2.1;have p:=zvu (kind:=kind) b.inv e.2.1 f.2.1;have s:=b.pre.length_le;split
 ·exact b.mono an
 ·split
  ·exact b.trans p
  ·split
   ·exact b.mono an
   ·split
    ·exact b.mono an
    ·split
     ·exact b.trans (wB b.inv (Z6 d an an)).1
     ·exact b.trans (wB b.inv (Z6 d an an)).1
def Li{i:Int}(h:Inv L):Ext L (lE L i).2 1:=by
 rw[lE];split
 ·exact(wB h (zD (SZ _) (ZS _) _)).1
 ·exact .refl h 1
def Z8{x:Int}(h:Inv L):Ext L (nV L x).2 3:=by
 rw[nV];split
 ·exact(S8 h).trans (Z7 (S8 h).inv)
 ·exact .refl h 3
variable {L:List Nd} {v:List Nat}
def dot:List Nat->List Nat->Int
 | a::f,b::v=>a*b+dot f v
 | _,_=>0
def zxB:∀(f v:List Nat),((aaA (·*·) f v).sum:Nat)=dot f v
 | [],_=>by simp[dot]
 | _::_,[]=>by simp[dot]
 | a::f,b::v=>by
  have:=zxB f v;simp only[abb,aca,dot];omega
def CO{c:Nat}{t:List Nat}(a:t.length=34)(b:v.length=34):(jY (c::t) v:Int)=((c:Int)+dot t v)%4294967296:=by
 have e:(xu (c::t) v 34:Int)=dot t v:=by rw[xu,aa8,List.tail_cons,aaq (by simp[a,b]),zxB]
 rw[jY,List.headD_cons];rw[<-e];omega
def IS(a b:Int):Prop:=∃ k:Int,a=b+4294967296*k
def S9(a:Nat):∃ q:Int,((a%4294967296:Nat):Int)=(a:Int)-4294967296*q:=⟨((a/4294967296:Nat):Int),an⟩
def zxC:∀(f g v:List Nat),f.length=g.length->IS (dot (jV f g) v) (dot f v+dot g v)
 | [],[],v,_=>⟨0,by simp[jV,dot]⟩
 | [],_::_,_,h=>by simp at h
 | _::_,[],_,h=>by simp at h
 | _::_,_::_,[],_=>⟨0,by simp[jV,dot]⟩
 | a::f,b::g,x::v,h=>by
  obtain⟨k,c⟩:=zxC f g v (by simpa using h);obtain⟨q,d⟩:=S9 (a+b);refine⟨k-q*x,?_⟩;simp only[jV,abb,dot] at c |-;rw[c,d];simp only[aab]
  grind
def zxD:∀(f g v:List Nat),f.length=g.length->(∀ x∈g,x<4294967296)->IS (dot (fD f g) v) (dot f v-dot g v)
 | [],[],v,_,_=>⟨0,by simp[fD,dot]⟩
 | [],_::_,_,h,_=>by simp at h
 | _::_,[],_,h,_=>by simp at h
 | _::_,_::_,[],_,_=>⟨0,by simp[fD,dot]⟩
 | a::f,b::g,x::v,h,c=>by
  obtain⟨k,d⟩:=zxD f g v (by simpa using h) fun y j=>c y (by simp[j]);obtain⟨q,i⟩:=S9 (a+4294967296-b);have l:=c b ir
  have e:((a+4294967296-b:Nat):Int)=(a:Int)+4294967296-b:=an
  rw[e] at i;refine⟨k-q*x+x,?_⟩;simp only[fD,abb,dot] at d |-;rw[d,i]
  grind
def zxE(k:Nat):∀(f v:List Nat),IS (dot (eG f k) v) (dot f v*k)
 | [],v=>⟨0,by simp[eG,dot]⟩
 | _::_,[]=>⟨0,by simp[eG,dot]⟩
 | a::f,x::v=>by
  obtain⟨j,b⟩:=zxE k f v;obtain⟨q,c⟩:=S9 (a*k);refine⟨j-q*x,?_⟩;simp only[eG,aa9,dot] at b |-;rw[b,c];simp only[aaD]
  grind
def Lj{f:List Nat}(a:f.length=35):∃ c t,f=c::t/\t.length=34:=by
 match f,a with
 | c::t,h=>exact⟨c,t,rfl,by simpa using h⟩
def zAT{f g:List Nat}(i:f.length=35)(j:g.length=35)(a:v.length=34):jY (jV f g) v=(jY f v+jY g v)%4294967296:=by obtain⟨c,t,rfl,b⟩:=Lj i;obtain⟨d,u,rfl,h⟩:=Lj j;have e:jV (c::t) (d::u)=((c+d)%4294967296)::jV t u:=rfl;have n:=CO (c:=c) b a;have o:=CO (c:=d) h a;have l:=CO (c:=(c+d)%4294967296) (t:=jV t u) (v:=v) (by simp[jV,b,h]) a;obtain⟨k,m⟩:=zxC t u v an;rw[m] at l;rw[e];omega
def ztn{f g:List Nat}(j:f.length=35)(l:g.length=35)(b:∀ x∈g,x<4294967296)(a:v.length=34):jY (fD f g) v=(jY f v+4294967296-jY g v)%4294967296:=by obtain⟨c,t,rfl,h⟩:=Lj j;obtain⟨d,u,rfl,i⟩:=Lj l;have e:fD (c::t) (d::u)=((c+4294967296-d)%4294967296)::fD t u:=rfl;have p:=CO (c:=c) h a;have q:=CO (c:=d) i a;have m:=CO (c:=(c+4294967296-d)%4294967296) (t:=fD t u) (v:=v) (by simp[fD,h,i]) a;obtain⟨k,n⟩:=zxD t u v an fun x o=>b x (by simp[o]);have hd:=b d ir;rw[n] at m;rw[e];omega
def Z9{f:List Nat}(k:Nat)(g:f.length=35)(a:v.length=34):jY (eG f k) v=jY f v*k%4294967296:=by
 obtain⟨c,t,rfl,b⟩:=Lj g;have e:eG (c::t) k=(c*k%4294967296)::eG t k:=rfl;have h:=CO (c:=c) b a;have d:=CO (c:=c*k%4294967296) (t:=eG t k) (v:=v) (by simp[eG,b]) a;obtain⟨j,i⟩:=zxE k t v;obtain⟨q,l⟩:=S9 (c*k);rw[i,l] at d;rw[e]
 have m:(jY (c*k%4294967296::eG t k) v:Int)=((c+dot t v)*k)%4294967296:=by
  rw[d]
  have:((c*k:Nat):Int)-4294967296*q+(dot t v*k+4294967296*j)=(c+dot t v)*k+4294967296*(j-q):=by simp only[aaD];grind
  rw[this,Int.add_mul_emod_self_left]
 have n:((jY (c::t) v*k%4294967296:Nat):Int)=((c+dot t v)*k)%4294967296:=by rw[Int.natCast_emod,aaD,h,show((4294967296:Nat):Int)=4294967296 from rfl,acF,Int.emod_emod,<-acF]
 omega
def Z_:∀(n:Nat) (v:List Nat),dot (aP n) v=0
 | 0,_=>by simp[aP,dot]
 | n+1,[]=>by simp[aP,aa6,dot]
 | n+1,x::v=>by
  have:=Z_ n v;simp only[aP,aa6,dot] at this |-;omega
def CP{c:Nat}(b:c<4294967296)(a:v.length=34):jY (c::aP 34) v=c:=by have h:=CO (c:=c) (t:=aP 34) (v:=v) ir a;rw[Z_] at h;omega
def zxF:∀(n i:Nat) (v:List Nat) (h:i<v.length),i<n->dot ((aP n).set i 1) v=(v[i]:Nat)
 | 0,i,v,h,hi=>by omega
 | n+1,i,[],h,hi=>by simp at h
 | n+1,0,x::v,h,hi=>by
  have:=Z_ n v;simp only[aP,aa6,abn,dot,List.getElem_cons_zero] at this |-
  omega
 | n+1,i+1,x::v,h,hi=>by
  have:=zxF n i v (by simpa using h) an;simp only[aP,aa6,abI,dot,List.getElem_cons_succ] at this |-;omega
def zoi{i:Nat}(hi:i<34)(a:v.length=34)(b:∀ x∈v,x<4294967296):jY (cG i) v=v[i]'(by omega):=by have e:cG i=0::(aP 34).set i 1:=rfl;have h:=CO (c:=0) (t:=(aP 34).set i 1) (v:=v) ir a;have d:=b _ (aaE (show i<v.length by omega));rw[zxF 34 i v an hi] at h;rw[e];omega
variable {L L':List Nd} {v:List Nat}
def zto{c:Nat}(a:c<4294967296)(r:Int->Nat):val [] [c] r=c:=by
 rw[val,<-Yt (w:=c) a]
 exact Ys fun i hi=>by simp[dq,idx,Yt (w:=c) a]
def zxG(i:Int)(r:Int->Nat)(a:r i<4294967296):val [i] [0,ones] r=r i:=by
 rw[val,<-Yt (w:=r i) a];refine Ys fun j b=>?_
 have e:ones.testBit j=true:=by rw[ones,show 4294967295=2^32-1 from rfl,abJ];simpa using b
 cases h:(r i).testBit j<;>simp[dq,idx,h,e]
def zC4{a:Nat}(b:a<4294967296):a ^^^ ones=4294967295-a:=by
 refine ab7 fun j=>?_;rw[Nat.testBit_xor,ones,show 4294967295=2^32-1 from rfl,abJ,show 2^32-1-a=2^32-(a+1) by omega,Nat.testBit_two_pow_sub_succ b]
 by_cases c:j<32
 ·simp[c]
 ·simp only[c,decide_false,acB,Bool.xor_false];exact Nat.testBit_lt_two_pow (Nat.lt_of_lt_of_le b (abd (n:=2) (i:=32) (by decide) an))
def zFM(i:Int)(r:Int->Nat)(a:r i<4294967296):val [i] [ones,0] r=4294967295-r i:=by have h:=zAQ (kind:=164) (fv:=[i]) (gv:=[]) (vs:=[i]) (ft:=[0,ones]) (gt:=[ones]) (tab:=[ones,0]) (.inr (.inr rfl)) (fun p=>by cases h:p i<;>simp[dq,idx,h,dm,ones]) r;rw[zxG i r a,zto (by decide)] at h;simp only[dm] at h;rw[h];simp;exact zC4 a
def IT{f:List Nat}{c:Nat}(a:f.length=35)(h:oT f=some c):f=c::aP 34:=by
 obtain⟨d,t,rfl,b⟩:=Lj a;rw[oT] at h;split at h
 ·rename_i e;cases h;rw[<-e];rfl
 ·cases h
def zxH{f:List Nat}{i:Nat}(h:nD f=some i):f=cG i:=by have:=List.find?_some h;simpa using this
def Lk(i:Nat):dj v L i=(di v L)[i]?.join:=by
 rw[dj]
 by_cases h:i<L.length
 ·have:cA L i=true:=by simp[cA];exact h
  rw[if_pos this];rfl
 ·have:¬cA L i=true:=by simp[cA];omega
  rw[if_neg this,List.getElem?_eq_none (by rw[wC];omega)];rfl
def zvv{a:Nd}{i:Nat}(b:a.cJ i)(e:i<=L.length):fZ v (di v (L.take i)) a=fZ v (di v L) a:=by
 rw[fZ,fZ];split
 ·rfl
 ·split
  ·rfl
  ·rcases b.2.2 with h|h|⟨_,c,d,_⟩
   ·contradiction
   ·contradiction
   ·rw[<-Lg,aaG,if_pos c,aaG,if_pos d]
def S_{i:Nat}{a:Nd}(h:Inv L)(b:L[i]?=some a):dj v L i=fZ v (di v L) a:=by rw[Lk,zxz b,zvv (h.cJ i a b) (by have:=(aal.1 b).1;omega)];rfl
def Ll{k i:Nat}(h:Ext L L' k)(hi:i<L.length):dj v L' i=dj v L i:=by rw[Lk,Lk,zxx (zvq h.pre) (kP (by rw[wC];exact hi)),kP (by rw[wC];exact hi)]
def zp4{a:Nd}{p:List Int×List Nat}{k:List (Option Nat)}(o:a.ok)(q:a.wf)(b:gg a=some p)(g:v.length=34)(l:∀ x∈v,x<4294967296):fZ v k a=some (val p.1 p.2 (pQ v)):=by
 by_cases m:a.kind=1
 ·rw[fZ,if_neg an,if_pos m,b];rfl
 ·have j:a.kind=0:=by
   by_cases j:a.kind=0
   ·exact j
   ·rw[gg,if_neg m,if_neg j] at b;cases b
  have n:∀(i:Nat) (h:i<34),pQ v (i:Int)=v[i]'(by omega):=fun i h=>by
   rw[pQ,aa0,aah,kP an];rfl
  have r:∀ i:Nat,i<34->pQ v (i:Int)<4294967296:=fun i h=>by rw[n i h];exact l _ (aaE _)
  rw[fZ,if_pos j];rw[gg,if_neg m,if_pos j] at b
  congr 1
  split at b
  ·rename_i c s;cases b;have t:=x6 s q.1;rw[IT o.1 s,CP t g,zto t]
  ·split at b
   ·rename_i i hi;cases b;have d:=SX hi;rw[zxH hi,zoi d g l,zxG _ _ (r i d),n i d]
   ·split at b
    ·rename_i i hi;cases b;have d:=SX hi
     have e:=congrArg (jY · v) (zxH hi)
     rw[ztn ir o.1 q.1 g,zoi d g l,CP (by decide) g] at e;have u:=zvr a.f v;rw[zFM _ _ (r i d),n i d,<-e];simp only[ones];omega
    ·cases b
def vI(v:List Nat)(p:Int×List Nd)(o:Option Nat):Prop:=∃ i:Nat,p.1=i/\i<p.2.length/\dj v p.2 i=o
def zxI{a:Nd}(h:Inv L)(b:a.cJ L.length):vI v (ba L a) (fZ v (di v L) a):=by
 obtain⟨e,i,d,c⟩:=wB h b;refine⟨i,d,(aal.1 c).1,?_⟩;rw[S_ e.inv c]
 have:L=(ba L a).2.take L.length:=by obtain⟨t,f⟩:=e.pre;rw[<-f,aaK rfl]
 conv=>rhs;rw[this]
 rw[zvv b e.pre.length_le]
def Ta{f:List Nat}(h:Inv L)(a:f.length=35)(b:∀ c∈f,c<4294967296):vI v (ba L (eZ f)) (some (jY f v)):=zxI h (zD a b _)
def zC5{fv:List Int}{ft:List Nat}(h:Inv L)(f:Right fv ft)(g:∀ c∈ft,c<4294967296)(j:v.length=34)(k:∀ x∈v,x<4294967296):vI v (th L fv ft) (some (val fv ft (pQ v))):=by obtain⟨e,i,a,l,b,m⟩:=zvp h f g;refine⟨i,l,(aal.1 b).1,?_⟩;have d:=e.inv.cJ i a b;rw[S_ e.inv b,zp4 d.1 d.2.1 m j k]
def Tb{kind:Int}{a c:Nat}(h:(dm kind a c).2=true):gB kind (some a) (some c)=some (dm kind a c).1:=by rw[gB];simp only[h,if_true]
def zt2{k:Nat}:(dm 100 1 k).1=2^(k%32)%4294967296:=by simp[dm]
def zC6{kind:Int}{a c:Nd}(h:Inv L)(j:a.ok)(l:c.ok)(B:a.wf)(s:c.wf)(i:v.length=34)(b:(kc L kind a c).2.1=true) :
  a.kind=0/\c.kind=0/\vI v ((kc L kind a c).1,(kc L kind a c).2.2) (gB kind (some (jY a.f v)) (some (jY c.f v))):=by
 rw[kc] at b |-;split at b
 case isFalse=>simp[lg] at b
 rename_i w;rw[if_pos w];refine⟨w.1,w.2,?_⟩
 have conv:∀(f:List Nat) (n:Nat),f.length=35->(∀ c∈f,c<4294967296)->jY f v=n->(dm kind (jY a.f v) (jY c.f v)).2=true->(dm kind (jY a.f v) (jY c.f v)).1=n ->
   vI v ((mO (ba L (eZ f))).1,(mO (ba L (eZ f))).2.2) (gB kind (some (jY a.f v)) (some (jY c.f v))):=fun f n D E e F G=>by
  rw[Tb F,G,<-e];exact Ta h D E
 by_cases x:kind=4
 ·simp only[x,if_true] at b |-;subst x;exact conv _ _ (zvn j.1 l.1) (zxy _ _) (zAT j.1 l.1 i) (by simp[dm]) (by simp[dm])
 by_cases y:kind=20
 ·simp only[y,if_true] at b |-;subst y;exact conv _ _ (ZV j.1 l.1) (ZU _ _) (ztn j.1 l.1 s.1 i) (by simp[dm]) (by simp[dm])
 simp only[x,y,if_false] at b |-
 have q:∀ k,oT c.f=some k->kind=36->vI v ((mO (ba L (eZ (eG a.f k)))).1,(mO (ba L (eZ (eG a.f k)))).2.2) (gB kind (some (jY a.f v)) (some (jY c.f v))):=fun k d g=>by
  have p:=x6 d s.1
  have z:jY c.f v=k:=by rw[IT l.1 d,CP p i]
  subst g;exact conv _ _ (Gk _ j.1) (Gj _ _) (Z9 k j.1 i) (by simp[dm]) (by rw[z];simp[dm])
 have r:∀ k,oT c.f=some k->kind=100->vI v ((mO (ba L (eZ (eG a.f (dm 100 1 k).1)))).1,(mO (ba L (eZ (eG a.f (dm 100 1 k).1)))).2.2) (gB kind (some (jY a.f v)) (some (jY c.f v))):=fun k d m=>by
  have p:=x6 d s.1
  have z:jY c.f v=k:=by rw[IT l.1 d,CP p i]
  subst m;refine conv _ _ (Gk _ j.1) (Gj _ _) (Z9 _ j.1 i) (by simp[dm]) ?_;rw[z,zt2];simp[dm,Nat.mul_mod]
 split at b
 ·rename_i u k o d
  try simp only[o,d]
  split at b
  ·rename_i g;rw[if_pos g];exact q k d g
  ·rename_i g;rw[if_neg g];split at b
   ·rename_i m;rw[if_pos m];exact r k d m
   ·rename_i m;rw[if_neg m];simp only at b;have t:=x6 o B.1;have C:=x6 d s.1
    have A:jY a.f v=u:=by rw[IT j.1 o,CP t i]
    have H:jY c.f v=k:=by rw[IT l.1 d,CP C i]
    have p:=Sl kind t C;rw[A,H,Tb b];have:=Ta (v:=v) h (f:=(dm kind u k).1::aP 34) ir (CM p);rwa[CP p i] at this
 ·rename_i k o d
  try simp only[o,d]
  split at b
  ·rename_i g;rw[if_pos g];exact q k d g
  ·rename_i g;rw[if_neg g];split at b
   ·rename_i m;rw[if_pos m];exact r k d m
   ·simp[lg] at b
 ·rename_i u o d
  try simp only[o,d]
  split at b
  ·rename_i g;rw[if_pos g];have t:=x6 o B.1
   have A:jY a.f v=u:=by rw[IT j.1 o,CP t i]
   subst g;refine conv _ _ (Gk _ l.1) (Gj _ _) (Z9 u l.1 i) (by simp[dm]) ?_;rw[A];simp[dm,abC]
  ·simp[lg] at b
 ·simp[lg] at b
def zC7{kind:Int}{a c:Nd}(h:Inv L)(n:a.wf)(o:c.wf)(i:v.length=34)(j:∀ x∈v,x<4294967296)(d:(lh L kind a c).2.1=true) :
  ∃ p q,gg a=some p/\gg c=some q/\vI v ((lh L kind a c).1,(lh L kind a c).2.2) (gB kind (some (val p.1 p.2 (pQ v))) (some (val q.1 q.2 (pQ v)))):=by
 cases b:gg a with
 | none=>simp[lh,b,lg] at d
 | some p =>
  cases e:gg c with
  | none=>simp[lh,b,e,lg] at d
  | some q =>
   cases f:zC kind p q with
   | none=>simp[lh,b,e,f,lg] at d
   | some r =>
    refine⟨p,q,rfl,rfl,?_⟩;simp only[lh,b,e,f,mO];obtain⟨g,k,l,m⟩:=SY f
    have hd:∀ x y,(dm kind x y).2=true:=fun x y=>by rcases g.1 with rfl|rfl|rfl<;>simp[dm]
    rw[Tb (hd _ _),<-zAQ g.1 m];exact zC5 h k l i j
def zC8{a:Nat}(b:a<4294967296):a &&& 4294967295=a:=by rw[show 4294967295=2^32-1 from rfl,Nat.and_two_pow_sub_one_eq_mod];exact Nat.mod_eq_of_lt b
def ztp{kind:Int}{c:Nd}{x y:Int}{b g:Option Nat}(m:∀ w,b=some w->w<4294967296)(q:c.ok)(r:c.wf)(s:v.length=34)(t:c.kind=0->g=some (jY c.f v))(u:x=y->b=g)
  (a:(kH kind (p7 c) x y).2=true):(kH kind (p7 c) x y).1=x/\b=gB kind b g:=by
 have d:∀ k,p7 c=some k->g=some k:=fun k d=>by
  rw[p7] at d;split at d
  ·rename_i z;rw[t z,IT q.1 d,CP (x6 d r.1) s]
  ·cases d
 have zero:p7 c=some 0->(∀ w,w<4294967296->dm kind w 0=(w,true))->b=gB kind b g:=fun n hd=>by
  rw[d 0 n]
  cases b with
  | none=>rfl
  | some w=>simp only[gB,hd w (m w rfl),if_true]
 have e:x=y->(∀ w,w<4294967296->dm kind w w=(w,true))->b=gB kind b g:=fun n hd=>by
  rw[<-u n]
  cases b with
  | none=>rfl
  | some w=>simp only[gB,hd w (m w rfl),if_true]
 rw[kH] at a |-;split at a
 ·rename_i o;rw[if_pos o];refine⟨rfl,zero (by simpa using a) fun w i=>?_⟩
  rcases o with rfl|rfl|rfl|rfl<;>simp[dm]<;>omega
 ·rename_i A;rw[if_neg A];split at a
  ·rename_i j;rw[if_pos j];subst j;refine⟨rfl,?_⟩;simp at a
   rcases a with h|h
   ·exact zero h fun w i=>by simp[dm]
   ·exact e h fun w i=>by simp[dm]
  ·rename_i j;rw[if_neg j];split at a
   ·rename_i l;rw[if_pos l];subst l;exact⟨rfl,zero (by simpa using a) fun w i=>by simp[dm]⟩
   ·rename_i l;rw[if_neg l];split at a
    ·rename_i p;rw[if_pos p];subst p;refine⟨rfl,?_⟩;simp at a
     rcases a with h|h
     ·rw[d _ h]
      cases b with
      | none=>rfl
      | some w=>simp[gB,dm,ones,zC8 (m w rfl)]
     ·exact e h fun w i=>by simp[dm]
    ·simp at a
def zC9{kind:Int}(h:xB kind=true)(a b:Nat):dm kind a b=dm kind b a:=by simp[xB] at h;obtain⟨c,d,e,f⟩:=h;simp only[dm,c,d,e,f,if_false,abB a b,abC a b,Nat.or_comm a b,Nat.and_comm a b,Nat.xor_comm a b]
def ztq{kind:Int}(h:xB kind=true)(o o':Option Nat):gB kind o o'=gB kind o' o:=by
 cases o<;>cases o'<;>simp[gB]
 rw[zC9 h]
def VW{i:Nat}{w:Nat}(h:Inv L)(a:dj v L i=some w):w<4294967296:=by
 rw[Lk] at a
 cases e:(di v L)[i]? with
 | none=>rw[e] at a;cases a
 | some o =>
  rw[e] at a;have:=ZZ (k:=L.length) (o:=o) (i:=i) h (by rw[aaV];exact e);rw[show o=some w from a] at this;exact this
def zxJ{kind x y:Int}(h:Inv L)(n:v.length=34)(s:∀ c∈v,c<4294967296)(I:(dm kind 0 1).2=true)(J:cA L x=true)(K:cA L y=true) :
  vI v (ik L kind x y) (gB kind (dj v L x) (dj v L y)):=by
 rw[ik,if_pos ⟨I,J,K⟩]
 obtain⟨N,V⟩:0<=x/\x<L.length:=by simpa[cA] using J
 obtain⟨O,W⟩:0<=y/\y<L.length:=by simpa[cA] using K
 obtain⟨j,rfl⟩:=aat N;obtain⟨l,rfl⟩:=aat O;obtain⟨a,t⟩:∃ a,L[j]?=some a:=⟨_,kP an⟩;obtain⟨c,z⟩:∃ c,L[l]?=some c:=⟨_,kP an⟩;have b:=h.cJ _ _ t;have d:=h.cJ _ _ z;simp only[aa0,t,z];have m:=ZW (kind:=kind) h b.1 d.1 b.2.1 d.2.1;obtain⟨o,A⟩:∃ o,o=(kc L kind a c).2.2:=⟨_,rfl⟩;rw[<-A] at m;have X:=m.pre.length_le;have B:=S_ (v:=v) h t;have C:=S_ (v:=v) h z;have D:=Ll (v:=v) m (i:=j) an
 have E:=Ll (v:=v) m (i:=l) an;have Y:=zvu (kind:=kind) m.inv b.2.1 d.2.1;rw[sC];simp only[<-A];split
 ·rename_i g;obtain⟨P,Q,F⟩:=zC6 (v:=v) h b.1 d.1 b.2.1 d.2.1 n g;rw[B,C,fZ,if_pos P,fZ,if_pos Q,A];exact F
 ·split
  ·rename_i g;obtain⟨p,q,R,S,F⟩:=zC7 (v:=v) m.inv b.2.1 d.2.1 n s g;rw[B,C,zp4 b.1 b.2.1 R n s,zp4 d.1 d.2.1 S n s];exact F
  ·have T:a.kind=0->dj v L j=some (jY a.f v):=fun k=>by rw[B,fZ,if_pos k]
   have ky:c.kind=0->dj v L l=some (jY c.f v):=fun k=>by rw[C,fZ,if_pos k]
   split
   ·rename_i g;obtain⟨G,H⟩:=ztp (v:=v) (x:=(j:Int)) (y:=(l:Int)) (fun w r=>VW h r) d.1 d.2.1 n ky (fun e=>by rw[e]) g;refine⟨j,G,by show j<o.length;omega,?_⟩;rw[<-H];exact D
   ·split
    ·rename_i g;obtain⟨G,H⟩:=ztp (v:=v) (x:=(l:Int)) (y:=(j:Int)) (fun w r=>VW h r) b.1 b.2.1 n T (fun e=>by rw[e]) g.2;refine⟨l,G,by show l<o.length;omega,?_⟩;rw[ztq g.1,<-H];exact E
    ·have M:∀ u w:Nat,u<L.length->w<L.length->vI v (ba o (z_ kind u w)) (gB kind (dj v L u) (dj v L w)):=fun u w U r=>by
      have:=zxI (v:=v) m.inv (Z6 (kind:=kind) (x:=u) (y:=w) I an an)
      have e:fZ v (di v o) (z_ kind u w)=gB kind (dj v L u) (dj v L w):=by rw[<-Ll (v:=v) m U,<-Ll (v:=v) m r,Lk,Lk];rfl
      rwa[e] at this
     split
     ·rename_i g;rw[ztq g.1];exact M l j an an
     ·exact M j l an an
def zxK{i:Int}(h:Inv L)(a:v.length=34)(b:∀ c∈v,c<4294967296)(d:0<=i)(e:i<34):vI v (lE L i) (some (v[i.toNat]?.getD 0)):=by rw[lE,if_pos ⟨d,e⟩];have:=Ta (v:=v) h (SZ i.toNat) (ZS _);rw[zoi an a b] at this;rw[kP an];exact this
def ztr{c:Nat}(h:Inv L)(b:v.length=34)(a:c<4294967296):vI v (ba L (eZ (c::aP 34))) (some c):=by have:=Ta (v:=v) h (f:=c::aP 34) ir (CM a);rwa[CP a b] at this
def zFN{x:Int}(h:Inv L)(b:v.length=34)(g:∀ c∈v,c<4294967296)(d:cA L x=true):vI v (nV L x) ((dj v L x).map sh):=by
 rw[nV,if_pos d]
 obtain⟨j,o⟩:0<=x/\x<L.length:=by simpa[cA] using d
 obtain⟨a,rfl⟩:=aat j;have e:=S8 h;obtain⟨i,f,k,l⟩:=ztr (v:=v) h b (c:=0) (by decide);have p:=e.pre.length_le;have r:=zxJ (v:=v) (kind:=20) (x:=(zE L).1) (y:=(a:Int)) e.inv b g (by decide) (by rw[zE,f];simp[cA];exact k) (by simp[cA];omega)
 have m:dj v (zE L).2 (zE L).1=some 0:=by rw[zE,f];exact l
 rw[m,Ll e an] at r
 have n:gB 20 (some 0) (dj v L a)=(dj v L a).map sh:=by
  cases dj v L a with
  | none=>rfl
  | some w=>simp[gB,dm,sh]
 rwa[n] at r
def zF(x:af):Bool:=!(x.op==5)&&!bf x.op&&!gL x.op
def mK(x:af):Bool:=zF x&&jX x&&nH x
def aW(w:List af):Bool:=decide (w.length<=32)&&w.all mK
def u5:af:=⟨22,0,0,0⟩
def Vw{x:af}(h:zF x=true):x.op≠5/\bf x.op=false/\gL x.op=false:=by simp only[zF,aax,Bool.not_eq_true',beq_eq_false_iff_ne] at h;exact⟨h.1.1,h.1.2,h.2⟩
def zts{x:af}(h:zF x=true)(left:Nat):fg x left=(jX x&&nH x):=by obtain⟨a,b,c⟩:=Vw h;simp[fg,a,b]
def ztt:∀{w:List af} (z:af),(∀ x∈w,zF x=true)->jP (w++[z])=((w.all fun x=>jX x&&nH x)&&fg z 0)
 | [],z,_=>by simp[jP]
 | x::w,z,h=>by
  rw[aaL,jP,ztt z fun y a=>h y (by simp[a]),zts (h x ir)];simp[Bool.and_assoc]
def zAU{w:List af}(h:∀ x∈w,zF x=true)(f:w.length<=32):dB (w++[u5])=w.all mK:=by
 have c:kA (w++[u5])=true:=by simp[kA];decide
 have d:fg u5 0=true:=by decide
 have e:(w++[u5]).length<=4096:=by simp;omega
 simp only[dB,ztt u5 h,c,d,e,acD,decide_true,acb];rw[abi,aa4,aa4];constructor
 ·intro b x a;simp only[mK,h x a,acb];exact b x a
 ·intro b x a;have:=b x a;simpa only[mK,h x a,acb] using this
def Af[az G][ay G][aN G](w:List af)(H:w.length<=maxLen)(v:∀ x∈w,x.k<4294967296):FP G 202 [FL w] (.bool (aW w)):=by
 refine bD aN.agL (aaa rfl) ?_
 by_cases j:w.length>32
 ·have l:((32:Int)<(w.length:Int))=True:=eq_true an;simp[FL,l,aW,show¬w.length<=32 by omega]
 have l:((32:Int)<(w.length:Int))=False:=eq_false an
 have c:w.length<=32:=an
 simp[FL,l];refine aQ w.length (fun i=>[(0,FL w),(8,FL w),(9,.int .i64 w.length),(10,.int .i64 i)]) (fun _=>[]) (fun i=>∀ x∈w.take i,zF x=true) ?_ ?_
 ·simp[av,aj,FL]
 intro i hi m
 by_cases f:i<w.length
 ·obtain⟨x,d⟩:∃ x,x=w[i]:=⟨_,rfl⟩;have n:=tF f;rw[<-d] at n;have d:=d.symm;have z:x∈w:=d▸aaE f;have r:=yM (G:=G) x;have s:=N_ (G:=G) x;have o:x.cs=[.int .i64 x.op,.int .i64 x.jt,.int .i64 x.jf,.int .u32 (x.k:Int)]:=rfl;simp[IV,o] at r s
  have a:zF x=false->aW w=false:=by
   intro h
   have:w.all mK=false:=by rw[<-Bool.not_eq_true,aa4];intro A;have:=A x z;simp only[mK,h,acB,aav] at this
   simp[aW,this]
  by_cases g:x.op=5
  ·have p:(x.op==5)=true:=by simp[g]
   simp(disch:=omega)[bM,FL,n,o,p,a (by simp[zF,g])]
  have p:(x.op==5)=false:=aO g;simp(disch:=omega)[bM,FL,n,o,p];refine ax r ?_;cases j:bf x.op
  ·simp;refine ax s ?_;cases t:gL x.op
   ·have B:∀ y∈w.take (i+1),zF y=true:=by
     intro y e;rw[aaI,aae f,d] at e;simp only[Option.toList,aaY,abG] at e
     rcases e with e|rfl
     ·exact m y e
     ·simp[zF,g,j,t]
    simp(disch:=omega)[f,bH,av,aj,-aab];exact B
   ·simp[a (by simp[zF,t])]
  ·simp[a (by simp[zF,j])]
 ·have C:i=w.length:=an
  subst C;rw[aaV] at m
  have b:=JV (G:=G) (w++[u5]) (by rw[aaM];have:maxLen=9223372036854775807:=(by decide);simp;omega) (fun x D=>by
   rcases aaY.1 D with h|h
   ·exact v x h
   ·simp only[abG] at h;subst h;decide)
  rw[zAU m c] at b
  have E:w.all mK=aW w:=by simp[aW,c]
  rw[E] at b;have q:IL w++[[V.int .i64 22,.int .i64 0,.int .i64 0,.int .u32 0]]=IL (w++[u5]):=Mx w u5;have F:[[V.int .i64 22,.int .i64 0,.int .i64 0,.int .u32 0]]=IL ([]++[u5]):=rfl;simp only[FL] at b
  by_cases u:w=[]
  ·subst u;simp only[aba] at b;simp[FL];refine ax b ?_;simp
  ·simp(disch:=omega)[FL,QR,u,aC,q];refine ax b ?_;simp
@[simp] theorem zMF (x:af):x.cs.take 4=x.cs:=rfl
theorem Vn(f:List af)(n:Nat):(IL f).drop n=IL (f.drop n):=by simp[IL]
def Vo(f:List af)(n:Nat):(IL f).take n=IL (f.take n):=by simp[IL]
def Dy(x y:af):cC [.int,.int,.int,.int] x.cs y.cs=some (decide (x=y)):=by obtain⟨a,b,c,d⟩:=x;obtain⟨e,f,c',d'⟩:=y;simp only[af.cs,cC,qx,if_true,acD,abE.injEq,af.mk.injEq];rw[abi];simp only[aax,beq_iff_eq,decide_eq_true_eq];omega
structure VS where
 L:List Nd
 p:List Int
 st:List Int
def vcs(p st:List Int)(tk:Tk):List V:=mW .i64 p++[.vs (ints .i64 st) tk]
section
variable {p st:List Int} {tk:Tk}
def E_(a:p.length=18):(vcs p st tk).length=19:=by simp[vcs,a]
def G8{i:Nat}(a:p.length=18)(hi:i<18):((vcs p st tk).drop i).take 1=[.int .i64 (p[i]' an)]:=by rw[vcs,abc (by simp;omega),zqW,aa2 an];rfl
def Tc{i:Nat}(x:Int)(a:p.length=18)(hi:i<18):(vcs p st tk).take i++(.int .i64 x::(vcs p st tk).drop (i+1))=vcs (p.set i x) st tk:=by rw[vcs,vcs,List.take_append_of_le_length (by simp;omega),abc (by simp;omega),<-zAj .i64 p i x an];simp
def zvw(a:p.length=18):(vcs p st tk).take 1=[.int .i64 (p[0]' an)]:=G8 (i:=0) a an
def zDa(a:p.length=18):(vcs p st tk).tail.take 1=[.int .i64 (p[1]' an)]:=by rw[<-aa8];exact G8 a an
def zDb(x:Int)(a:p.length=18):.int .i64 x::(vcs p st tk).tail=vcs (p.set 0 x) st tk:=by rw[<-aa8];exact Tc (i:=0) x a an
def zDc(x:Int)(a:p.length=18):(vcs p st tk).take 1++(.int .i64 x::(vcs p st tk).drop 2)=vcs (p.set 1 x) st tk:=Tc (i:=1) x a an
def U_(a:p.length=18):((vcs p st tk).drop 18).take 1=[.vs (ints .i64 st) tk]:=by rw[vcs,aaZ (by simp[a])];rfl
def zAV(st':List Int)(a:Tk)(b:p.length=18):(vcs p st tk).take 18++(.vs (ints .i64 st') a::(vcs p st tk).drop 19)=vcs p st' a:=by rw[vcs,vcs,aaK (by simp[b]),aaX (by simp[b])]
def zvy(a:p.length=18):(vcs p st tk).take 19=vcs p st tk:=aaq (by rw[E_ a];omega)
def zAW(n a:Nat)(h:a<n):aX n (vcs p st (.own a))=vcs p st (.own a):=by rw[ia,vcs];simp[mW,aaJ,V.cl,Tk.cl,h]
end
noncomputable def uo(s:VS)(x:af):Int×List Nd:=if(bw x.op).2.1=true then(s.p.getD 1 0,s.L) else ba s.L (eZ (x.k::aP 34))
noncomputable def fJ(s:VS)(x:af):VS :=
 if(bw x.op).2.2=true then
  ⟨(ik (uo s x).2 (bw x.op).1 (s.p.getD 0 0) (uo s x).1).2,s.p.set 0 (ik (uo s x).2 (bw x.op).1 (s.p.getD 0 0) (uo s x).1).1,
   if(bw x.op).2.1=true/\(bw x.op).1=52 then s.st++[s.p.getD 1 0] else s.st⟩
 else if x.op=0 then⟨(ba s.L (eZ (x.k::aP 34))).2,s.p.set 0 (ba s.L (eZ (x.k::aP 34))).1,s.st⟩
 else if x.op=1 then⟨(ba s.L (eZ (x.k::aP 34))).2,s.p.set 1 (ba s.L (eZ (x.k::aP 34))).1,s.st⟩
 else if x.op=32 then⟨(lE s.L (18+(x.k/4:Nat))).2,s.p.set 0 (lE s.L (18+(x.k/4:Nat))).1,s.st⟩
 else if x.op=96 then⟨s.L,s.p.set 0 (s.p.getD (2+x.k) 0),s.st⟩
 else if x.op=97 then⟨s.L,s.p.set 1 (s.p.getD (2+x.k) 0),s.st⟩
 else if x.op=2 then⟨s.L,s.p.set (2+x.k) (s.p.getD 0 0),s.st⟩
 else if x.op=3 then⟨s.L,s.p.set (2+x.k) (s.p.getD 1 0),s.st⟩
 else if x.op=132 then⟨(nV s.L (s.p.getD 0 0)).2,s.p.set 0 (nV s.L (s.p.getD 0 0)).1,s.st⟩
 else if x.op=7 then⟨s.L,(s.p.set 1 (s.p.getD 0 0)).set 0 (s.p.getD 0 0),s.st⟩
 else if x.op=135 then⟨s.L,s.p.set 0 (s.p.getD 1 0),s.st⟩
 else s
def Bk.mw{a k n:Nat}(h:Bk H b z m L)(c:H[a]?=some (some (.zone k)))(f:a≠z):Bk (H.set a (some (.zone n))) b z m L:=by
 have g:a≠b:=fun e=>by rw[e,h.hb] at c;simp[yT] at c
 have i:a≠m:=fun e=>by rw[e,h.hm] at c;simp at c
 refine⟨by rw[aaB g];exact h.hb,by rw[aaB f];exact h.hz,by rw[aaB i];exact h.hm,fun n d=>?_,h.ok,h.small⟩;rw[aan] at d;rw[Ed,h.shut n d];rfl
def zDd{a k:Nat}(h:Bk H b z m L)(c:H[a]?=some (some (.zone k)))(d:a≠z)(x:Option aw)(L':List Nd):dC (H.set a x) b z m L'=(dC H b z m L').set a x:=by
 have f:a≠b:=fun e=>by rw[e,h.hb] at c;simp[yT] at c
 have g:a≠m:=fun e=>by rw[e,h.hm] at c;simp at c
 unfold dC;rw[acd _ _ f,acd _ _ d,acd _ _ g]
def zDe{a k:Nat}(h:Bk H b z m L)(c:H[a]?=some (some (.zone k)))(d:a≠z)(L':List Nd):(dC H b z m L')[a]?=some (some (.zone k)):=by
 have f:b≠a:=fun e=>by rw[<-e,h.hb] at c;simp[yT] at c
 have g:m≠a:=fun e=>by rw[<-e,h.hm] at c;simp at c
 unfold dC;rw[aaB g,aaB (Ne.symm d),aaB f];exact c
section
variable {α:Type} {H l:List α} {n:Nat} (h:H.length=n)
include h
def nY:(H++l)[n]?=l[0]?:=by subst h;exact la H l
def qO(k:Nat):(H++l)[n+k]?=l[k]?:=by subst h;exact iq H l k
def sK(x:α):(H++l).set n x=H++l.set 0 x:=by subst h;exact zB H l x
def xT(k:Nat)(x:α):(H++l).set (n+k) x=H++l.set k x:=by subst h;exact xq H l k x
end
def zAX[dR G][dx G][az G][ar G][bG G][aK G][cd G](s:VS)(x:af)(g:Nat)(h:Bk H b z m s.L)(s7:H[g]?=some (some (.zone s.st.length)))(aB:g≠z)(hi:Inv s.L)(hs:s.L.length<900000)
  (a:s.p.length=18) (ht:s.st.length<=1000) (hk:x.k<4294967296) (hx:mK x=true) :
  SF G 295 [.ptr b 0,.agg (vcs s.p s.st (.own g)),IV x] H (.agg (vcs (fJ s x).p (fJ s x).st (.own g))) ((dC H b z m (fJ s x).L).set g (some (.zone (fJ s x).st.length))):=by
 refine ke cd.aeu (aaa rfl) ?_;have C:=(aal.1 s7).1;have pI:=h.lb;obtain⟨Z,hZ⟩:∃ Z:List V,Z=vcs (aaF 18 0) [] .full:=⟨_,rfl⟩
 have D:Z.length=19:=by rw[hZ];rfl
 have E:Z.drop 19=[]:=aaX an
 have kZ:∀ n,aX n Z=Z:=fun n=>by rw[hZ];simp[vcs,mW,aX,V.cl]
 have ez:=J1 (G:=G) x;have fz:x.cs.length=4:=rfl;have lI:x.cs.take 4=x.cs:=rfl
 have kx:∀ n,aX n x.cs=x.cs:=fun n=>by simp[af.cs,aX,V.cl]
 have x0:x.cs.take 1=[.int .i64 x.op]:=rfl;have x3:(x.cs.drop 3).take 1=[.int .u32 (x.k:Int)]:=rfl
 have He:[V.int .i64 0,.int .i64 0,.int .i64 0,.int .i64 0,.int .i64 0,.int .i64 0,.int .i64 0,.int .i64 0,.int .i64 0,.int .i64 0,.int .i64 0,.int .i64 0,.int .i64 0,.int .i64 0,.int .i64 0,.int .i64 0,.int .i64 0,.int .i64 0,.vs [] .full]=Z:=by rw[hZ];rfl
 obtain⟨W,B⟩:∃ W:List Int->List Int->List V,∀ p st,W p st=vcs p st (.own g):=⟨_,fun _ _=>rfl⟩
 have f:∀ p st,p.length=18->(W p st).length=19:=fun p st a=>by rw[B];exact E_ a
 have F:∀ p st,p.length=18->(W p st).take 19=W p st:=fun p st a=>by rw[B];exact zvy a
 have A:∀ p st n,g<n->aX n (W p st)=W p st:=fun p st n J=>by rw[B];exact zAW n g J
 have S:∀ p st,(a:p.length=18)->(W p st).take 1=[.int .i64 (p[0]' an)]:=fun p st a=>by rw[B];exact zvw a
 have W1:∀ p st,(a:p.length=18)->(W p st).tail.take 1=[.int .i64 (p[1]' an)]:=fun p st a=>by rw[B];exact zDa a
 have Ws:∀ p st,p.length=18->((W p st).drop 18).take 1=[.vs (ints .i64 st) (.own g)]:=fun p st a=>by rw[B];exact U_ a
 have T:∀ p st (v:Int),p.length=18->.int .i64 v::(W p st).tail=W (p.set 0 v) st:=fun p st v a=>by rw[B,B];exact zDb v a
 have S1:∀ p st (v:Int),p.length=18->(W p st).take 1++(.int .i64 v::(W p st).drop 2)=W (p.set 1 v) st:=fun p st v a=>by rw[B,B];exact zDc v a
 have Ss:∀ p st U,p.length=18->(W p st).take 18++(.vs (ints .i64 U) (.own g)::(W p st).drop 19)=W p U:=fun p st U a=>by rw[B,B];exact zAV U _ a
 have Wg:∀ p st (k:Nat),(a:p.length=18)->(hk:k<16)->((W p st).drop (2+k)).take 1=[.int .i64 (p[2+k]' an)]:=fun p st k a hk=>by rw[B];exact G8 a an
 have Wk:∀ p st (k:Nat) (v:Int),p.length=18->k<16->(W p st).take (2+k)++(.int .i64 v::(W p st).drop (2+k+1))=W (p.set (2+k) v) st:=fun p st k v a hk=>by rw[B,B];exact Tc v a an
 have ha:∀ v:Int,V.int .i64 (s.p[0]' an)::.int .i64 v::(W s.p s.st).drop 2=W (s.p.set 1 v) s.st:=fun v=>by
  have:=S1 s.p s.st v a;rw[S _ _ a] at this;exact this
 have g0:s.p.getD 0 0=s.p[0]'(by omega):=by rw[aah,kP an];rfl
 have g1:s.p.getD 1 0=s.p[1]'(by omega):=by rw[aah,kP an];rfl
 have u:∀(i:Nat) (v:Int),(s.p.set i v).length=18:=fun i v=>by rw[aan];exact a
 have bR:∀(H':ae) (L':List Nd) (C':List V),H'.length=H.length->Bk H' b z m L'->(∀ n,g<n->aX n C'=C')->Bk (H'++[some (.cells C'),some (.cells x.cs),some (.cells Z)]) b z m L':=fun H' L' C' hl hB hc =>
  hB.qP fun n J=>by simp at J;simp[aw.cl,kx,kZ,hc n an]
 have Lm:∀(L':List Nd),(dC H b z m L').set g (some (.zone s.st.length))=dC H b z m L':=fun L'=>Dm (zDe h s7 aB L');rw[<-B,<-B];simp[IV,fz,lI,He,aC,leFn];refine ax ez ?_
 cases I:(bw x.op).2.2 with
 | true =>
  cases rf:(bw x.op).2.1 with
  | false =>
   obtain⟨q,j⟩:∃ q,q=ba s.L (eZ (x.k::aP 34)):=⟨_,rfl⟩
   have jI:uo s x=q:=by rw[uo,rf,j];rfl
   obtain⟨r,hr⟩:∃ r,r=ik q.2 (bw x.op).1 s.p[0] q.1:=⟨_,rfl⟩
   have l:fJ s x=⟨r.2,s.p.set 0 r.1,s.st⟩:=by rw[fJ,if_pos I,jI,g0,<-hr,rf];rfl
   have O:Ext s.L q.2 1:=by rw[j];exact(wB hi (zD ir (CM hk) _)).1
   have l1:=O.len;obtain⟨H1,Le⟩:∃ H1,H1=dC H b z m q.2:=⟨_,rfl⟩
   have n1:H1.length=H.length:=by rw[Le,r6]
   have B1:Bk H1 b z m q.2:=by rw[Le];exact h.to O.inv an
   have c1:=Lf (G:=G) x.k (bR H s.L (W s.p s.st) rfl h (fun n J=>A _ _ n J)) an;rw[BF,<-j,h.cf,<-Le] at c1;obtain⟨H2,c⟩:∃ H2,H2=dC H b z m r.2:=⟨_,rfl⟩
   have o:H2.length=H.length:=by rw[c,r6]
   have w:=S4 (G:=G) (bw x.op).1 s.p[0] q.1 (bR H1 q.2 (W s.p s.st) n1 B1 (fun n J=>A _ _ n J)) O.inv an;rw[BF,<-hr,B1.cf,show dC H1 b z m r.2=H2 by rw[Le,c,h.mb]] at w
   have t:∀ d,aj H.length (H2++d)=H2:=fun d=>by rw[c];exact h.back _ d
   have K:H2.set g (some (.zone s.st.length))=H2:=by rw[c];exact Lm _
   rw[l];simp only[<-c];simp[f _ _ a,W1 _ _ a,fz,x3,aC,leFn];refine cL c1 ?_;simp[f _ _ a,S _ _ a,aC,leFn,n1];refine cL w ?_
   simp[f _ _ a,f _ _ (u _ _),F _ _ (u _ _),T _ _ _ a,D,E,aC,leFn,o,sK o,xT o,t,A _ _ _ C,K]
  | true =>
   obtain⟨r,hr⟩:∃ r,r=ik s.L (bw x.op).1 s.p[0] s.p[1]:=⟨_,rfl⟩
   by_cases IU:(bw x.op).1=52
   ·have ku:=hr;rw[IU] at ku
    have l:fJ s x=⟨r.2,s.p.set 0 r.1,s.st++[s.p[1]]⟩:=by rw[fJ,if_pos I];simp only[uo,rf,if_true,g0,g1,IU,<-ku,and_self]
    obtain⟨Hz,Td⟩:∃ Hz,Hz=H.set g (some (.zone (s.st.length+1))):=⟨_,rfl⟩
    have Te:Hz.length=H.length:=by rw[Td,aan]
    have Bz:Bk Hz b z m s.L:=by rw[Td];exact h.mw s7 aB
    obtain⟨H2,c⟩:∃ H2,H2=dC Hz b z m r.2:=⟨_,rfl⟩
    have o:H2.length=H.length:=by rw[c,r6,Te]
    have B4:Bk (Hz++[some (.cells (W s.p (s.st++[s.p[1]]))),some (.cells x.cs),some (.cells Z),none]) b z m s.L:=Bz.qP fun n J=>by simp at J;simp[aw.cl,kx,kZ,A _ _ n (show g<n by omega)]
    have w:=S4 (G:=G) (bw x.op).1 s.p[0] s.p[1] B4 hi an;rw[BF,<-hr,Bz.cf,<-c] at w;have h8:((s.st.length+1)*8<=140737488355328)=True:=eq_true an
    have t:∀ d,aj H.length (H2++d)=H2:=fun d=>by rw[c,<-Te];exact Bz.back _ d
    have K:(dC H b z m r.2).set g (some (.zone (s.st.length+1)))=H2:=by rw[c,Td,zDd h s7 aB]
    have gz:∀ d,(H++d)[g]?=some (some (.zone s.st.length)):=fun d=>by rw[aam C];exact s7
    have sz:∀(y:Option aw) (d:ae),(H++d).set g y=H.set g y++d:=fun y d=>abx _ _ C;have hb:((bw x.op).1==52)=true:=DZ IU;have CE:∀ st:List Int,True:=fun _=>trivial;rw[l];simp[f _ _ a,S _ _ a,W1 _ _ a,Ws _ _ a,Ss _ _ _ a,aC,leFn,hb,gz,sz,<-Td,h8,Te,sK Te];refine cL w ?_;simp[f _ _ a,f _ _ (u _ _),F _ _ (u _ _),T _ _ _ a,D,E,aC,leFn,o,sK o,xT o,t,A _ _ _ C,K]
   ·have l:fJ s x=⟨r.2,s.p.set 0 r.1,s.st⟩:=by rw[fJ,if_pos I];simp only[uo,rf,if_true,g0,g1,<-hr,IU,and_false,if_false]
    have hb:((bw x.op).1==52)=false:=aO IU;obtain⟨H2,c⟩:∃ H2,H2=dC H b z m r.2:=⟨_,rfl⟩
    have o:H2.length=H.length:=by rw[c,r6]
    have w:=S4 (G:=G) (bw x.op).1 s.p[0] s.p[1] (bR H s.L (W s.p s.st) rfl h (fun n J=>A _ _ n J)) hi an;rw[BF,<-hr,h.cf,<-c] at w
    have t:∀ d,aj H.length (H2++d)=H2:=fun d=>by rw[c];exact h.back _ d
    have K:H2.set g (some (.zone s.st.length))=H2:=by rw[c];exact Lm _
    rw[l];simp only[<-c];simp[f _ _ a,S _ _ a,W1 _ _ a,aC,leFn,hb];refine cL w ?_
    simp[f _ _ a,f _ _ (u _ _),F _ _ (u _ _),T _ _ _ a,D,E,aC,leFn,o,sK o,xT o,t,A _ _ _ C,K]
 | false =>
  have il:x.op=96\/x.op=97\/x.op=2\/x.op=3->x.k<16:=fun ho=>by
   simp only[mK,aax] at hx;have h2:=hx.2
   rcases ho with ho|ho|ho|ho<;>simp[nH,ho] at h2<;>exact h2
  have dF:=h.shut.back;have Ln:fV .i64 (x.k:Int)=(x.k:Int):=Im an;have nc:=h.fW;have Gl:H.set g (some (.zone s.st.length))=H:=Dm s7;have Tf:=bR H s.L (W s.p s.st) rfl h (fun n J=>A _ _ n J);simp[fz,x0,x3,aC,leFn]
  by_cases M:x.op=0
  ·have l:∀ q,q=ba s.L (eZ (x.k::aP 34))->fJ s x=⟨q.2,s.p.set 0 q.1,s.st⟩:=fun q j=>by rw[fJ,if_neg (by simp[I]),if_pos M,<-j]
   obtain⟨q,j⟩:∃ q,q=ba s.L (eZ (x.k::aP 34)):=⟨_,rfl⟩
   have O:Ext s.L q.2 3:=by rw[j];exact(wB hi (zD ir (CM hk) _)).1.mono an
   have l1:=O.len;obtain⟨H2,c⟩:∃ H2,H2=dC H b z m q.2:=⟨_,rfl⟩
   have o:H2.length=H.length:=by rw[c,r6]
   have w:=Lf (G:=G) x.k Tf an;rw[BF,<-j,h.cf,<-c] at w
   have t:∀ d,aj H.length (H2++d)=H2:=fun d=>by rw[c];exact h.back _ d
   have K:H2.set g (some (.zone s.st.length))=H2:=by rw[c];exact Lm _
   rw[l q j];simp only[<-c];simp(disch:=omega)[fz,x3,leFn,iq,M];refine cL w ?_;simp[f _ _ a,f _ _ (u _ _),F _ _ (u _ _),T _ _ _ a,D,E,aC,leFn,o,sK o,xT o,t,A _ _ _ C,K]
  have b0:(x.op==0)=false:=aO M
  by_cases N:x.op=1
  ·have l:∀ q,q=ba s.L (eZ (x.k::aP 34))->fJ s x=⟨q.2,s.p.set 1 q.1,s.st⟩:=fun q j=>by rw[fJ,if_neg (by simp[I]),if_neg M,if_pos N,<-j]
   obtain⟨q,j⟩:∃ q,q=ba s.L (eZ (x.k::aP 34)):=⟨_,rfl⟩
   have O:Ext s.L q.2 3:=by rw[j];exact(wB hi (zD ir (CM hk) _)).1.mono an
   have l1:=O.len;obtain⟨H2,c⟩:∃ H2,H2=dC H b z m q.2:=⟨_,rfl⟩
   have o:H2.length=H.length:=by rw[c,r6]
   have w:=Lf (G:=G) x.k Tf an;rw[BF,<-j,h.cf,<-c] at w
   have t:∀ d,aj H.length (H2++d)=H2:=fun d=>by rw[c];exact h.back _ d
   have K:H2.set g (some (.zone s.st.length))=H2:=by rw[c];exact Lm _
   rw[l q j];simp only[<-c];simp(disch:=omega)[fz,x3,leFn,iq,N];refine cL w ?_;simp[f _ _ a,f _ _ (u _ _),F _ _ (u _ _),S _ _ a,ha,D,E,aC,leFn,o,sK o,xT o,t,A _ _ _ C,K]
  have b1:(x.op==1)=false:=aO N
  by_cases P:x.op=32
  ·have l:∀ q,q=lE s.L (18+(x.k/4:Nat))->fJ s x=⟨q.2,s.p.set 0 q.1,s.st⟩:=fun q j=>by rw[fJ,if_neg (by simp[I]),if_neg M,if_neg N,if_pos P,<-j]
   have qd:mr .i64 (x.k:Int) 4=((x.k/4:Nat):Int):=zLI (b:=4) an;have X:aE .i64 18 ((x.k/4:Nat):Int)=18+((x.k/4:Nat):Int):=ey an an;obtain⟨q,j⟩:∃ q,q=lE s.L (18+(x.k/4:Nat)):=⟨_,rfl⟩
   have O:Ext s.L q.2 3:=by rw[j];exact(Li hi).mono an
   have l1:=O.len;obtain⟨H2,c⟩:∃ H2,H2=dC H b z m q.2:=⟨_,rfl⟩
   have o:H2.length=H.length:=by rw[c,r6]
   have w:=zxw (G:=G) (18+((x.k/4:Nat):Int)) Tf an;rw[BF,<-j,h.cf,<-c] at w
   have t:∀ d,aj H.length (H2++d)=H2:=fun d=>by rw[c];exact h.back _ d
   have K:H2.set g (some (.zone s.st.length))=H2:=by rw[c];exact Lm _
   rw[l q j];simp only[<-c];simp(disch:=omega)[P,Ln,qd,X,-acy];refine cL w ?_;simp[f _ _ a,f _ _ (u _ _),F _ _ (u _ _),T _ _ _ a,D,E,aC,leFn,o,sK o,xT o,t,A _ _ _ C,K]
  have he:(x.op==32)=false:=aO P
  have hf:∀(p':List Int),p'.length=18->fJ s x=⟨s.L,p',s.st⟩->V.agg (W p' s.st)=V.agg (vcs (fJ s x).p (fJ s x).st (.own g))/\(dC H b z m (fJ s x).L).set g (some (.zone (fJ s x).st.length))=H:=fun p' iD e=>by
   rw[e];refine⟨by rw[B],?_⟩;show(dC H b z m s.L).set g (some (.zone s.st.length))=H;rw[nc,Gl]
  by_cases R:x.op=96
  ·have Q:=il an
   have X:aE .i64 2 (x.k:Int)=((2+x.k:Nat):Int):=by rw[ey an an];omega
   have gk:s.p.getD (2+x.k) 0=s.p[2+x.k]'(by omega):=by rw[aah,kP an];rfl
   have l:fJ s x=⟨s.L,s.p.set 0 (s.p[2+x.k]'(by have:=il an;omega)),s.st⟩:=by rw[fJ,if_neg (by simp[I]),if_neg M,if_neg N,if_neg P,if_pos R,gk]
   have FX:=Wg s.p s.st x.k a Q;have wL:=fun v=>Wk s.p s.st x.k v a Q;rw[l];simp(disch:=omega)[f _ _ a,f _ _ (u _ _),F _ _ (u _ _),T _ _ _ a,D,E,aC,leFn,la,iq,R,Ln,X,bM,pa,FX,-aab,nc,Gl,dF,A _ _ _ C]
  have hg:(x.op==96)=false:=aO R
  by_cases Y:x.op=97
  ·have Q:=il an
   have X:aE .i64 2 (x.k:Int)=((2+x.k:Nat):Int):=by rw[ey an an];omega
   have gk:s.p.getD (2+x.k) 0=s.p[2+x.k]'(by omega):=by rw[aah,kP an];rfl
   have l:fJ s x=⟨s.L,s.p.set 1 (s.p[2+x.k]'(by have:=il an;omega)),s.st⟩:=by rw[fJ,if_neg (by simp[I]),if_neg M,if_neg N,if_neg P,if_neg R,if_pos Y,gk]
   have FX:=Wg s.p s.st x.k a Q;have wL:=fun v=>Wk s.p s.st x.k v a Q;rw[l];simp(disch:=omega)[f _ _ a,f _ _ (u _ _),F _ _ (u _ _),S _ _ a,ha,D,E,aC,leFn,la,iq,Y,Ln,X,bM,pa,FX,-aab,nc,Gl,dF,A _ _ _ C]
  have hh:(x.op==97)=false:=aO Y
  by_cases o2:x.op=2
  ·have Q:=il an
   have X:aE .i64 2 (x.k:Int)=((2+x.k:Nat):Int):=by rw[ey an an];omega
   have gk:s.p.getD (2+x.k) 0=s.p[2+x.k]'(by omega):=by rw[aah,kP an];rfl
   have l:fJ s x=⟨s.L,s.p.set (2+x.k) s.p[0],s.st⟩:=by rw[fJ,if_neg (by simp[I]),if_neg M,if_neg N,if_neg P,if_neg R,if_neg Y,if_pos o2,g0]
   have FX:=Wg s.p s.st x.k a Q;have wL:=fun v=>Wk s.p s.st x.k v a Q;rw[l];simp(disch:=omega)[f _ _ a,f _ _ (u _ _),F _ _ (u _ _),S _ _ a,D,E,aC,leFn,la,iq,o2,Ln,X,bM,pa,wL,-aab,nc,Gl,dF,A _ _ _ C]
  have b2:(x.op==2)=false:=aO o2
  by_cases o3:x.op=3
  ·have Q:=il an
   have X:aE .i64 2 (x.k:Int)=((2+x.k:Nat):Int):=by rw[ey an an];omega
   have gk:s.p.getD (2+x.k) 0=s.p[2+x.k]'(by omega):=by rw[aah,kP an];rfl
   have l:fJ s x=⟨s.L,s.p.set (2+x.k) s.p[1],s.st⟩:=by rw[fJ,if_neg (by simp[I]),if_neg M,if_neg N,if_neg P,if_neg R,if_neg Y,if_neg o2,if_pos o3,g1]
   have FX:=Wg s.p s.st x.k a Q;have wL:=fun v=>Wk s.p s.st x.k v a Q;rw[l];simp(disch:=omega)[f _ _ a,f _ _ (u _ _),F _ _ (u _ _),W1 _ _ a,D,E,aC,leFn,la,iq,o3,Ln,X,bM,pa,wL,-aab,nc,Gl,dF,A _ _ _ C]
  have b3:(x.op==3)=false:=aO o3
  by_cases ur:x.op=132
  ·have l:∀ q,q=nV s.L s.p[0]->fJ s x=⟨q.2,s.p.set 0 q.1,s.st⟩:=fun q j=>by rw[fJ,if_neg (by simp[I]),if_neg M,if_neg N,if_neg P,if_neg R,if_neg Y,if_neg o2,if_neg o3,if_pos ur,g0,<-j]
   obtain⟨q,j⟩:∃ q,q=nV s.L s.p[0]:=⟨_,rfl⟩
   have O:Ext s.L q.2 3:=by rw[j];exact Z8 hi
   have l1:=O.len;obtain⟨H2,c⟩:∃ H2,H2=dC H b z m q.2:=⟨_,rfl⟩
   have o:H2.length=H.length:=by rw[c,r6]
   have w:=zFL (G:=G) s.p[0] Tf hi an;rw[BF,<-j,h.cf,<-c] at w
   have t:∀ d,aj H.length (H2++d)=H2:=fun d=>by rw[c];exact h.back _ d
   have K:H2.set g (some (.zone s.st.length))=H2:=by rw[c];exact Lm _
   rw[l q j];simp only[<-c];simp(disch:=omega)[f _ _ a,S _ _ a,aC,leFn,la,ur];refine cL w ?_;simp[f _ _ a,f _ _ (u _ _),F _ _ (u _ _),T _ _ _ a,D,E,aC,leFn,o,sK o,xT o,t,A _ _ _ C,K]
  have hj:(x.op==132)=false:=aO ur
  by_cases o7:x.op=7
  ·have l:fJ s x=⟨s.L,(s.p.set 1 s.p[0]).set 0 s.p[0],s.st⟩:=by rw[fJ,if_neg (by simp[I]),if_neg M,if_neg N,if_neg P,if_neg R,if_neg Y,if_neg o2,if_neg o3,if_neg ur,if_pos o7,g0]
   have tC:(s.p.set 1 s.p[0]).length=18:=u _ _;have w1:=W1 (s.p.set 1 s.p[0]) s.st tC;have w0:=T (s.p.set 1 s.p[0]) s.st s.p[0] tC
   have uB:((s.p.set 1 s.p[0]).set 0 s.p[0]).length=18:=by rw[aan];exact tC
   have w2:=f ((s.p.set 1 s.p[0]).set 0 s.p[0]) s.st uB;have w3:=F ((s.p.set 1 s.p[0]).set 0 s.p[0]) s.st uB;simp at w1;rw[l];simp(disch:=omega)[f _ _ a,f _ _ (u _ _),S _ _ a,ha,D,E,aC,leFn,la,iq,o7,nc,Gl,dF,A _ _ _ C,w0,w1,w2,w3]
  have b7:(x.op==7)=false:=aO o7
  by_cases xC:x.op=135
  ·have l:fJ s x=⟨s.L,s.p.set 0 s.p[1],s.st⟩:=by rw[fJ,if_neg (by simp[I]),if_neg M,if_neg N,if_neg P,if_neg R,if_neg Y,if_neg o2,if_neg o3,if_neg ur,if_neg o7,if_pos xC,g1]
   rw[l];simp(disch:=omega)[f _ _ a,f _ _ (u _ _),F _ _ (u _ _),W1 _ _ a,T _ _ _ a,D,E,aC,leFn,la,iq,xC,nc,Gl,dF,A _ _ _ C]
  have hm:(x.op==135)=false:=aO xC
  have l:fJ s x=s:=by rw[fJ,if_neg (by simp[I]),if_neg M,if_neg N,if_neg P,if_neg R,if_neg Y,if_neg o2,if_neg o3,if_neg ur,if_neg o7,if_neg xC]
  rw[l];simp(disch:=omega)[f _ _ a,F _ _ a,D,E,leFn,la,iq,b0,b1,he,hg,hh,b2,b3,hj,b7,hm,Ln,nc,Gl,dF,A _ _ _ C]
open Go Go.RowKit
variable {G:aM}
variable {H:ae} {b z m:Nat} {L:List Nd}
noncomputable def ED(s:VS)(i:Nat):VS:=⟨(lE s.L i).2,s.p.set i (lE s.L i).1,s.st⟩
noncomputable def ki(L:List Nd)(n:Nat):VS:=(ab6 n).foldl ED ⟨L,aaF 18 0,[]⟩
def Th(L:List Nd)(n:Nat):ki L (n+1)=ED (ki L n) n:=by simp[ki,ab1]
noncomputable def aH(L:List Nd)(w:List af):VS:=w.foldl fJ (ki L 18)
def zAY(L:List Nd)(w:List af)(x:af):aH L (w++[x])=fJ (aH L w) x:=by simp[aH]
structure EE (L:List Nd) (s:VS) (k n:Nat):Prop where
 ext:Ext L s.L k
 len:s.p.length=18
 st:s.st.length<=n
def zvz{s:VS}{k n:Nat}(h:EE L s k n){x:af}(g:x.k<4294967296):EE L (fJ s x) (k+3) (n+1):=by
 have hi:=h.ext.inv;have a:∀ p:List Int,p.length=18->EE L ⟨s.L,p,s.st⟩ (k+3) (n+1):=fun p c=>⟨h.ext.mono an,c,by have:=h.st;show s.st.length<=_;omega⟩;have b:∀(q:Int×List Nd) (p:List Int) (st:List Int),Ext s.L q.2 3->p.length=18->st.length<=n+1->EE L ⟨q.2,p,st⟩ (k+3) (n+1):=fun q p st e c i=>⟨h.ext.trans e,c,i⟩;have j:=h.st;have d:Ext s.L (ba s.L (eZ (x.k::aP 34))).2 1:=(wB hi (zD ir (CM g) _)).1
 rw[fJ];split
 ·have f:Ext s.L (uo s x).2 1:=by
   rw[uo];split
   ·exact .refl hi 1
   ·exact d
  refine b (ik (uo s x).2 (bw x.op).1 (s.p.getD 0 0) (uo s x).1) _ _ (f.trans (Z7 f.inv)) (by rw[aan];exact h.len) ?_;split
  ·simp;omega
  ·omega
 ·split
  ·exact b _ _ _ (d.mono an) (by rw[aan];exact h.len) an
  ·split
   ·exact b _ _ _ (d.mono an) (by rw[aan];exact h.len) an
   ·split
    ·exact b _ _ _ ((Li hi).mono an) (by rw[aan];exact h.len) an
    ·split
     ·exact a _ (by rw[aan];exact h.len)
     ·split
      ·exact a _ (by rw[aan];exact h.len)
      ·split
       ·exact a _ (by rw[aan];exact h.len)
       ·split
        ·exact a _ (by rw[aan];exact h.len)
        ·split
         ·exact b _ _ _ (Z8 hi) (by rw[aan];exact h.len) an
         ·split
          ·exact a _ (by rw[aan,aan];exact h.len)
          ·split
           ·exact a _ (by rw[aan];exact h.len)
           ·exact a _ h.len
def Lo(h:Inv L):∀ n,EE L (ki L n) n 0
 | 0=>⟨.refl h 0,by simp[ki],by simp[ki]⟩
 | n+1=>by
  have a:=Lo h n;rw[Th];exact⟨a.ext.trans (Li a.ext.inv),by show(List.set _ _ _).length=18;rw[aan];exact a.len,a.st⟩
def zvA(L:List Nd):∀ n,(ki L n).st=[]
 | 0=>by simp[ki]
 | n+1=>by rw[Th];exact zvA L n
def An(h:Inv L):∀(w:List af),(∀ x∈w,x.k<4294967296)->EE L (aH L w) (18+3*w.length) w.length:=fun w=>by
 have:∀(w:List af) (s:VS) (k n:Nat),EE L s k n->(∀ x∈w,x.k<4294967296)->EE L (w.foldl fJ s) (k+3*w.length) (n+w.length):=fun w=>by
  induction w with
  | nil=>intro s k n h _;exact h
  | cons x w b =>
   intro s k n h a;have:=b (fJ s x) (k+3) (n+1) (zvz h (a x ir)) fun y c=>a y (by simp[c])
   have d:k+3+3*w.length=k+3*(x::w).length:=by simp;omega
   have e:n+1+w.length=n+(x::w).length:=by simp;omega
   rw[d,e] at this;exact this
 intro a;have:=this w (ki L 18) 18 0 (Lo h 18) a;rwa[acj] at this
def zLW[az G][ay G][aN G][cd G](w:List af)(h:Bk H b z m L)(c:w.length<=maxLen)(d:∀ x∈w,x.k<4294967296)(e:aW w=false) :
  SF G 296 [.ptr b 0,FL w] H (.a_ [.agg (vcs (aaF 18 0) [] .full),.bool false]) H:=by
 refine ke cd.aev (aaa rfl) ?_;have f:=h.shut.back;have a:=Af (G:=G) w c d;simp[FL] at a |-;refine ax a ?_;simp[e,f,vcs,mW]
def zLX[dR G][dx G][az G][ay G][aN G][ar G][bG G][aK G][cd G](w:List af)(h:Bk H b z m L)(hi:Inv L)(hs:L.length<=800000)(hf:w.length<=maxLen)(O:∀ x∈w,x.k<4294967296)(y:aW w=true) :
  SF G 296 [.ptr b 0,FL w] H (.a_ [.agg (vcs (aH L w).p (aH L w).st .no),.bool true]) (dC H b z m (aH L w).L):=by
 refine ke cd.aev (aaa rfl) ?_;have uj:=h.lz;have pI:=h.lb;have nc:=h.fW;have I:=Af (G:=G) w hf O
 have pY:w.length<=32:=by simp only[aW,aax,decide_eq_true_eq] at y;exact y.1
 have P:∀ x∈w,mK x=true:=by simp only[aW,aax,aa4] at y;exact y.2
 obtain⟨Z,A⟩:∃ Z:List V,Z=vcs (aaF 18 0) [] .full:=⟨_,rfl⟩
 have lZ:Z.length=19:=by rw[A];rfl
 have ew:Z.drop 19=[]:=aaX an
 have kZ:∀ n,aX n Z=Z:=fun n=>by rw[A];simp[vcs,mW,aX,V.cl]
 have Q:Z[18]?=some (.vs [] .full):=by rw[A];rfl
 have R:=(aal.1 Q).2
 have He:[V.int .i64 0,.int .i64 0,.int .i64 0,.int .i64 0,.int .i64 0,.int .i64 0,.int .i64 0,.int .i64 0,.int .i64 0,.int .i64 0,.int .i64 0,.int .i64 0,.int .i64 0,.int .i64 0,.int .i64 0,.int .i64 0,.int .i64 0,.int .i64 0,.vs [] .full]=Z:=by rw[A];rfl
 obtain⟨d,J⟩:∃ d,d=H.length+2:=⟨_,rfl⟩;obtain⟨W,e⟩:∃ W:List Int->List Int->List V,∀ p st,W p st=vcs p st (.own d):=⟨_,fun _ _=>rfl⟩
 have l:∀ p st,p.length=18->(W p st).length=19:=fun p st B=>by rw[e];exact E_ B
 have S:∀ p st,p.length=18->(W p st).take 19=W p st:=fun p st B=>by rw[e];exact zvy B
 have Wc:∀ p st n,d<n->aX n (W p st)=W p st:=fun p st n U=>by rw[e];exact zAW n d U
 have Wd:∀ p st,p.length=18->(W p st).drop 19=[]:=fun p st B=>aaX (by rw[l _ _ B];omega)
 have Wn:∀ p st,aX H.length (W p st)=vcs p st .no:=fun p st=>by
  rw[e,ia,vcs,vcs,J];simp[mW,aaJ,V.cl,Tk.cl]
 have X:Z.set 18 (.vs [] (.own d))=W (aaF 18 0) []:=by rw[A,e];rfl
 obtain⟨t,u⟩:∃ t:VS->ae,∀ s,t s=dC H b z m s.L++[some (.cells Z),some (.cells (W s.p s.st)),some (.zone s.st.length)]:=⟨_,fun _=>rfl⟩
 have bl:∀ s,(t s).length=H.length+3:=fun s=>by rw[u];simp[r6]
 have Y:∀(s:VS) (r:ae),Inv s.L->s.L.length<=1000000->(∀ n,r.map (abv (aw.cl n))=r)->Bk (dC H b z m s.L++some (.cells Z)::some (.cells (W s.p s.st))::some (.zone s.st.length)::r) b z m s.L:=fun s r qq v I =>
  (h.to qq v).qP fun n U=>by
   simp[r6] at U;simp only[aa9,ab0,aw.cl,kZ,Wc s.p s.st n an,I n]
 have C:∀(s:VS) (r:ae),Inv s.L->s.L.length<=1000000->aj (H.length+3) (dC H b z m s.L++some (.cells Z)::some (.cells (W s.p s.st))::some (.zone s.st.length)::r)=t s:=fun s r qq v=>by
  have:=(Y s [] qq v fun n=>rfl).shut.back r;simp[r6] at this;rw[u];exact this
 have f:∀ L',(dC H b z m L').length=H.length:=fun L'=>r6 _ _ _ _ _;have g0:∀(L':List Nd) (r:ae),(dC H b z m L'++r)[H.length]?=r[0]?:=fun L' r=>nY (f L');have D:∀(L':List Nd) (r:ae) (k:Nat),(dC H b z m L'++r)[H.length+k]?=r[k]?:=fun L' r k=>qO (f L') k;have K:∀(L':List Nd) (r:ae) (k:Nat) (x:Option aw),(dC H b z m L'++r).set (H.length+k) x=dC H b z m L'++r.set k x:=fun L' r k x=>xT (f L') k x;have s0:∀(L':List Nd) (r:ae) (x:Option aw),(dC H b z m L'++r).set H.length x=dC H b z m L'++r.set 0 x:=fun L' r x=>sK (f L') x
 have ha:∀ L' r,aj H.length (dC H b z m L'++r)=dC H b z m L':=fun L' r=>h.back L' r;have M:(b<H.length+3)=True:=eq_true an;simp[FL] at I |-;refine ax I ?_;simp[y,He,lZ,iq,R,<-J,X];have V1:=Lo hi;refine aQ 18 (fun i=>[(0,.ptr b 0),(1,.vs (IL w) .no),(4,.ptr H.length 0),(6,.ptr (H.length+1) 0),(18,.int .i64 i)]) (fun i=>t (ki L i)) (fun _=>True) ?_ ?_
 ·have:=C (ki L 0) [] hi (by show L.length<=_;omega);simp[ki,nc] at this;simp[av,ki,M,this]
 ·intro i he _;have a:=V1 i;have hg:=a.ext.len
  by_cases ai:i<18
  ·have hB:=Y (ki L i) [] a.ext.inv an fun n=>rfl;obtain⟨q,hq⟩:∃ q,q=lE (ki L i).L i:=⟨_,rfl⟩
   have rT:ki L (i+1)=⟨q.2,(ki L i).p.set i q.1,(ki L i).st⟩:=by rw[Th,ED,<-hq]
   have E:=zxw (G:=G) (i:Int) hB an;rw[BF,<-hq,(h.to a.ext.inv an).cf,h.mb] at E
   have e1:Ext (ki L i).L q.2 1:=by rw[hq];exact Li a.ext.inv
   have l1:=e1.len;have N:=C ⟨q.2,(ki L i).p.set i q.1,(ki L i).st⟩ [] e1.inv (by show q.2.length<=_;omega);simp only at N;have wl:=l (ki L i).p (ki L i).st a.len;have ws:=Tc (i:=i) (p:=(ki L i).p) (st:=(ki L i).st) (tk:=.own d) q.1 a.len ai;rw[<-e,<-e] at ws;have O4:((i:Int)<18)=True:=eq_true an;have tb:=C (ki L i) [] a.ext.inv an;rw[u];simp(disch:=omega)[O4];refine cL E ?_
   simp(disch:=omega)[D,K,f,ai,O4,aC,wl,ws,av,M,N,rT,bH,-aab]
  ·obtain rfl:i=18:=by omega
   have wt:=S (ki L 18).p (ki L 18).st a.len
   have hb:(W (ki L 18).p (ki L 18).st)[18]?=some (.vs (ints .i64 (ki L 18).st) (.own d)):=by rw[e,vcs,aap (by simp[a.len])];simp[a.len]
   have hc:=(aal.1 hb).2;rw[u];simp[f,hc,l _ _ a.len];obtain⟨T,F⟩:∃ T:Nat->VS,∀ j,T j=aH L (w.take j):=⟨_,fun _=>rfl⟩
   have T0:T 0=ki L 18:=by rw[F,List.take_zero,aH,List.foldl_nil]
   have TN:T w.length=aH L w:=by rw[F,aaV]
   have Tok:∀ j,EE L (T j) (18+3*32) 32:=fun j=>by
    rw[F];have:=An hi (w.take j) fun x o=>O x (aaz o);exact⟨this.ext.mono (by simp;omega),this.len,Nat.le_trans this.st (by simp;omega)⟩
   have Ts:∀(j:Nat) (x:af),w[j]?=some x->T (j+1)=fJ (T j) x:=fun j x o=>by rw[F,F,aaI,o];exact zAY _ _ _
   refine aQ w.length (fun j=>[(0,.ptr b 0),(4,.ptr H.length 0),(6,.ptr (H.length+1) 0),(28,.vs (IL w) .no),(29,.int .i64 w.length),(30,.int .i64 j)]) (fun j=>t (T j)) (fun _=>True) ?_ ?_
   ·have:=C (ki L 18) [] a.ext.inv an;simp[av,f,M,this,T0]
   intro j hj _;have c:=Tok j;have lT:=c.ext.len;have sT:=c.st
   by_cases wi:j<w.length
   ·obtain⟨x,o⟩:∃ x,w[j]?=some x:=⟨_,kP wi⟩;have mj:=aau o;have DC:x.cs.length=4:=rfl;have lI:x.cs.take 4=x.cs:=rfl
    have gx:(IL w)[j]?=some x.cs:=by simp[o]
    have hh:=(aal.1 gx).2;have jd:((j:Int)<(w.length:Int))=True:=eq_true an
    have hB:=Y (T j) [some (.cells x.cs)] c.ext.inv an fun n=>by simp[aw.cl,af.cs,aX,V.cl]
    have nJ:(dC H b z m (T j).L++[some (.cells Z),some (.cells (W (T j).p (T j).st)),some (.zone (T j).st.length),some (.cells x.cs)])[d]?=some (some (.zone (T j).st.length)):=by rw[J,D];rfl
    have E:=zAX (G:=G) (T j) x d hB nJ an c.ext.inv an c.len an (O x mj) (P x mj);obtain⟨s',v⟩:∃ s',s'=fJ (T j) x:=⟨_,rfl⟩;rw[<-v,<-e,<-e,(h.to c.ext.inv an).cf,h.mb,J,K] at E
    have jv:T (j+1)=s':=by rw[v];exact Ts j x o
    have g:=Tok (j+1);rw[jv] at g;have hl:=g.ext.len;have N:=C s' [some (.cells x.cs)] g.ext.inv an;rw[u];simp(disch:=omega)[jd,gx,DC,lI,D,K,f,leFn,l _ _ c.len,S _ _ c.len];refine cL E ?_;simp(disch:=omega)[D,K,f,l _ _ c.len,l _ _ g.len,Wd _ _ c.len,av,M,N,jv,bH,wi,-aab]
   ·obtain rfl:j=w.length:=by omega
    rw[u];have g:=c;rw[TN] at g;simp(disch:=omega)[TN,g0,D,s0,f,leFn,l _ _ g.len,S _ _ g.len,lZ,ew,ha,Wn]
def two(w:List Nat)(i:Nat):Nat:=w.getD i 0+w.getD (i+1) 0*4294967296
def mF(w:List Nat):Da:=⟨w.getD 0 0,w.getD 1 0,two w 2,(ab6 6).map fun i=>two w (4+2*i)⟩
def O5(d:Da)(a v:Nat):Da:=if a%4=0/\a<64 then mF ((j_ d).set (a/4) v) else d
def zDf{w:List Nat}(a:w.length=16)(b:∀ x∈w,x<4294967296):j_ (mF w)=w:=by
 match w,a with
 | [h,i,j,k,l,m,n,o,p,q,c,r,d,e,f,g],_ =>
  simp only[aa_,abQ,or_false,forall_eq_or_imp,forall_eq] at b;simp only[j_,mF,two,lo,hi,ab1,List.range_zero,aba,aa9,List.map_nil,aaL,List.flatMap_cons,List.flatMap_nil,List.getD_cons_zero,aa7,Nat.mul_zero,Nat.mul_one,Nat.reduceMul,Nat.reduceAdd,List.cons.injEq,and_true,true_and]
  and_intros<;>omega
def Mp{w:List Nat}(e:w.length=16)(d:∀ x∈w,x<4294967296):(mF w).ok:=by
 have a:∀ i,w.getD i 0<4294967296:=by
  intro i;rw[abq]
  cases h:w[i]? with
  | none=>decide
  | some z=>exact d z (aau h)
 have b:∀ i,two w i<18446744073709551616:=fun i=>by
  have:=a i;have:=a (i+1);unfold two;omega
 refine⟨a 0,a 1,b 2,by simp[mF],fun x c=>?_⟩;simp only[mF,aaH] at c;obtain⟨i,_,rfl⟩:=c;exact b _
def zHe{l:List Nat}{i v n:Nat}(h:∀ x∈l,x<n)(b:v<n):∀ x∈l.set i v,x<n:=fun x c=>by
 rcases abh c with a|a
 ·exact h x a
 ·rw[a];exact b
def rF:St:=⟨0,0,aP 16⟩
def zvB:rF.ok:=⟨by decide,by decide,by simp[rF],fun w a=>by
 simp only[rF,aP,abm] at a
 omega⟩
def zHf:rF.cs=au .u32 (aP 18):=rfl
def Us[dR G][dx G][az G][ay G][bQ G][cT G][j0 G][qG G](f:List af)(d:Da)(W:f.length<=maxLen)(K:∀ x∈f,x.k<4294967296)(j:dB f=true)(hd:d.ok) :
  FP G 230 [FL f,DV d] (.a_ [.int .u32 ((run d f rF).1:Nat),.int .i64 ((run d f rF).2:Nat),.int .i64 0]):=by
 refine bD qG.agH (aaa rfl) ?_;have C:=JV (G:=G) f W K;rw[j] at C;have L:=hd.2.2.2.1;have X:=fe (k:=.u64) L
 have Y:0<f.length:=by
  have:=YQ j
  cases f with
  | nil=>exact absurd rfl this
  | cons=>simp
 have Z:=zAG d _ f rF (aa3 _)
 have QA:f.length<=4096:=by simp only[dB,aax,decide_eq_true_eq] at j;exact j.1.1
 obtain⟨R,D⟩:∃ R,R=run d f rF:=⟨_,rfl⟩;rw[<-D] at Z |-;simp[FL] at C;simp[FL,DV,Da.cs];refine ax C ?_;simp
 refine wu (fun z:St×Nat×Nat=>f.length-z.2.1)
  (fun z=>[(0,FL f),(3,.ptr 0 0),(7,.ptr 1 0),(8,.int .u32 0),(9,.int .i64 z.2.1),(10,.int .i64 z.2.2)])
  (fun z=>[some (.cells d.cs),some (.cells z.1.cs)])
  (fun z=>z.2.1<f.length/\z.1.ok/\(run d (f.drop z.2.1) z.1).1=R.1/\z.2.2+(run d (f.drop z.2.1) z.1).2=R.2) (rF,0,0) ?_ ?_
 ·refine⟨⟨Y,zvB,by simp[D],by simp[D]⟩,?_,?_⟩
  ·simp[av,FL]
  ·simp[aj,Da.cs,zHf]
 rintro⟨s,t,n⟩ ⟨l,e,a,b⟩;simp only at l e a b;have E:f[t]?=some f[t]:=aae l;have m:=tF l;have M:f[t]∈f:=aaE l;have N:=aa2 l;obtain⟨x,F⟩:∃ x,x=f[t]:=⟨_,rfl⟩;rw[<-F] at E m M N;have F:=F.symm;have y:=K x M;have o:x.cs=[.int .i64 x.op,.int .i64 x.jt,.int .i64 x.jf,.int .u32 (x.k:Int)]:=rfl;have kJ:=L_ j E;have O:=yM (G:=G) x;have P:=zCH (G:=G) s x e y;have p:=zxn (G:=G) s x d e y hd
 have q:=e.2.2.1;have Q:=fe (k:=.u32) q;have hc:=E9 x.k y;have S:=Hk e y hd;have H:=S.2.2.1;have BP:=fe (k:=.u32) H;have A:aE .i64 (t:Int) 1=((t+1:Nat):Int):=bH an;have B:aE .i64 (n:Int) 1=((n+1:Nat):Int):=bH an;rw[N,xY] at a b;simp[SV,IV,DV,o,St.cs,Da.cs] at O P p
 by_cases r:x.op=6
 ·simp only[r,if_true] at a b;simp(disch:=omega)[FL,m,o,r,A,B,-aab];rw[<-a,<-b];simp
 have T:(x.op==6)=false:=aO r
 by_cases CH:x.op=22
 ·simp only[CH,if_true] at a b;simp(disch:=omega)[FL,m,o,CH,A,B,St.cs,-aab];rw[<-a,<-b];simp
 have u:(x.op==22)=false:=aO CH
 have he:gL x.op=false:=by simp[gL,r,CH]
 have c:=E8 j E (QZ he s);simp only[r,CH,if_false,aaQ] at a b
 by_cases g:x.op=5
 ·have I:(x.op==5)=true:=by simp[g]
  have i:goes s x=x.k:=by simp[goes,g]
  have J:eM s x d=(s,true):=by
   have:(bw 5).2.2=false:=by decide
   simp[eM,kC,g,this]
  rw[i] at c a b;rw[J] at a b;simp only[if_true] at a b;have v:aE .i64 ((t+1:Nat):Int) (x.k:Int)=((t+1+x.k:Nat):Int):=qM an;simp(disch:=omega)[FL,m,o,T,u,I,hc,A,B,v,-aab];refine⟨(s,t+1+x.k,n+1),?_⟩;refine⟨by simp only;omega,⟨c,e,a,by simp only;omega⟩,?_,?_⟩
  ·simp[av,-aab]
  ·simp[aj,Da.cs,St.cs]
 have I:(x.op==5)=false:=aO g;simp(disch:=omega)[FL,m,o,T,u,I,A,B,-aab];refine ax O ?_;cases w:bf x.op
 ·have i:goes s x=0:=by simp[goes,g,w]
  rw[i] at c a b;simp only[Nat.add_zero] at c a b;simp(disch:=omega)[q,Q,L,X,St.cs,Da.cs,-aab];refine ax p ?_;cases U:(eM s x d).2
  ·rw[U] at a b;simp only[aav,if_false] at a b;simp[H,-aab];rw[<-a,<-b];simp
  ·rw[U] at a b;simp only[if_true] at a b;simp(disch:=omega)[H,BP,q,-aab];refine⟨((eM s x d).1,t+1,n+1),?_⟩;refine⟨by simp only;omega,⟨c,S,a,by simp only;omega⟩,?_,?_⟩
   ·simp[av,-aab]
   ·have zT:=Sb (k:=.u32) q;simp[aj,zT]
 obtain⟨b1,b2,b3,b4⟩:=kJ w
 have J:eM s x d=(s,true):=by
  rcases Ay w with h|h|h|h|h|h|h|h <;>
  ·have:(bw x.op).2.2=false:=by rw[h];decide
   unfold eM;rw[this];simp[kC,h]
 rw[J] at a b;simp only[if_true] at a b;simp(disch:=omega)[q,Q,St.cs,-aab];refine ax P ?_;cases V:cQ s x
 ·have i:goes s x=x.jf.toNat:=by simp[goes,g,w,V]
  rw[i] at c a b
  have v:aE .i64 ((t+1:Nat):Int) x.jf=((t+1+x.jf.toNat:Nat):Int):=by rw[ey]<;>omega
  simp(disch:=omega)[v,-aab];refine⟨(s,t+1+x.jf.toNat,n+1),?_⟩;refine⟨by simp only;omega,⟨c,e,a,by simp only;omega⟩,?_,?_⟩
  ·simp[av,-aab]
  ·simp[aj,Da.cs]
 ·have i:goes s x=x.jt.toNat:=by simp[goes,g,w,V]
  rw[i] at c a b
  have v:aE .i64 ((t+1:Nat):Int) x.jt=((t+1+x.jt.toNat:Nat):Int):=by rw[ey]<;>omega
  simp(disch:=omega)[v,-aab];refine⟨(s,t+1+x.jt.toNat,n+1),?_⟩;refine⟨by simp only;omega,⟨c,e,a,by simp only;omega⟩,?_,?_⟩
  ·simp[av,-aab]
  ·simp[aj,Da.cs]
def zLY(a b c:V)(l:List V)(n:Nat):(a::b::c::l).take (3+n)=a::b::c::l.take n:=by rw[abB];rfl
def zHg(b c:V)(l:List V)(n:Nat):(b::c::l).drop (3+n)=l.drop (n+1):=by rw[show 3+n=(n+1)+2 by omega];rfl
def zAZ{w:List Nat}(b:∀ x∈w,x<4294967296)(i:Nat):uK .u64 ((w.getD i 0:Nat):Int) (jc .u64 ((w.getD (i+1) 0:Nat):Int) 32)=((two w i:Nat):Int):=by
 have a:∀ i,w.getD i 0<4294967296:=by
  intro i;rw[abq]
  cases h:w[i]? with
  | none=>decide
  | some z=>exact b z (aau h)
 exact zAA _ _ (a i) (a (i+1))
def ZD:List V:=[.int .u32 0,.int .u32 0,.int .u64 0,.int .u64 0,.int .u64 0,.int .u64 0,.int .u64 0,.int .u64 0,.int .u64 0]
def HG(w:List Nat)(n:Nat)(a b c:Nat)(l:List Nat):ae:=[some (.cells (au .u32 w)),some (.cells ZD),some (.cells [.int .i64 n]),some (.cells (.int .u32 (a:Int)::.int .u32 (b:Int)::.int .u64 (c:Int)::au .u64 l))]
def zHh[dw G](w:List Nat)(n a b c:Nat)(l:List Nat)(f:w.length=16)(d:∀ x∈w,x<4294967296)(u:n+1<16) :
  bA G (.F 231 [.ptr 0 0,.ptr 2 0] (HG w n a b c l) (.int .u64 (two w n:Nat)) (HG w (n+2) a b c l)):=by
 have g:=sI .u32 w n an;have h:=sI .u32 w (n+1) an
 have i:w.getD n 0=w[n]:=by simp[abq,aae (show n<w.length by omega)]
 have j:w.getD (n+1) 0=w[n+1]:=by simp[abq,aae (show n+1<w.length by omega)]
 have e:=zAZ d n;rw[i,j] at e;have v:=d _ (aaE (show n<w.length by omega));have y:=d _ (aaE (show n+1<w.length by omega));have k:=Ol w[n] an;have m:=Ol w[n+1] an;have o:aE .i64 (n:Int) 1=((n+1:Nat):Int):=bH an;have p:aE .i64 (n:Int) 2=((n+2:Nat):Int):=N4 (n:=2) an;have q:((n:Int)<16)=True:=bM an;have r:(((n+1:Nat):Int)<16)=True:=bM an;have s:(n+1<=16)=True:=aC an
 have t:(n+1+1<=16)=True:=aC an;have z:(n<=14)=True:=aC an;refine ee dw.agI (aaa rfl) ?_;simp[HG,ZD,o,p,q,r,s,t,g,h,k,m,e,f,-aab]
def yE(w:List Nat)(i:Nat):List Nat:=(ab6 6).map fun j=>if j<i then two w (4+2*j) else 0
def zok(w:List Nat)(i:Nat):(yE w i).length=6:=by simp[yE]
def zyT(w:List Nat){i:Nat}(hi:i<6):(yE w i).set i (two w (4+2*i))=yE w (i+1):=by
 apply abK;intro j;rw[aaU,zok]
 by_cases h:i=j
 ·subst h;simp[yE,hi]
 ·rw[if_neg h]
  by_cases a:j<6
  ·simp only[yE,acs,List.getElem?_range a,ab0]
   by_cases b:j<i
   ·simp[b,show j<i+1 by omega]
   ·simp[b,show¬j<i+1 by omega]
  ·simp[yE,a]
def zFO(w:List Nat):yE w 6=(mF w).args:=by simp only[yE,mF];apply aci;intro j a;simp[abr.1 a]
def zFP(w:List Nat):yE w 0=aP 6:=by simp[yE,aP,ab1]
def zHi[dw G](w:List Nat)(b:w.length=16)(c:∀ x∈w,x<4294967296):FP G 232 [.agg (au .u32 w)] (DV (mF w)):=by
 refine bD dw.agJ (aaa rfl) ?_;have m:=fe (k:=.u32) b
 have n:(au .u32 w).take 1=[.int .u32 (w[0]:Nat)]:=by have:=sI .u32 w 0 an;rwa[ab5] at this
 have o:(au .u32 w).tail.take 1=[.int .u32 (w[1]:Nat)]:=by have:=sI .u32 w 1 an;rwa[aa8] at this
 have p:=sI .u32 w 2 an;have q:=sI .u32 w 3 an
 have d:∀ i (h:i<16),w.getD i 0=w[i]:=fun i h=>by simp[abq,aae (show i<w.length by omega)]
 have f:=zAZ c 2;rw[d 2 an,d 3 an] at f;have z:=c _ (aaE (show 2<w.length by omega));have A:=c _ (aaE (show 3<w.length by omega));have r:=Ol w[2] an;have s:=Ol w[3] an;simp[n,o,p,q,r,s,f,b]
 refine aQ 6 (fun i=>[(2,.ptr 1 0),(4,.fn 231 [.ptr 0 0,.ptr 2 0]),(5,.ptr 3 0),(21,.int .i64 i)])
  (fun i=>HG w (4+2*i) w[0] w[1] (two w 2) (yE w i)) (fun _=>True) ?_ ?_
 ·have e:au .u64 (aP 6)=[.int .u64 0,.int .u64 0,.int .u64 0,.int .u64 0,.int .u64 0,.int .u64 0]:=rfl;simp[av,aj,HG,ZD,zFP,e]
 intro i hi _
 by_cases g:i<6
 ·have j:=zHh (G:=G) w (4+2*i) w[0] w[1] (two w 2) (yE w i) b c an;have t:=zok w i;have l:=xO .u64 (yE w i) i (two w (4+2*i)) an;rw[zyT w g] at l;simp[HG,ZD,-aab,-aaD] at j;simp(disch:=omega)[bM,HG,ZD,-aab,-aaD];refine kj j ir ?_;simp(disch:=omega)[aj,zLY,zHg,t,l,bM,aC,bH,g,av,show 4+2*(i+1)=4+2*i+2 from an,-aab,-aaD]
 ·have u:i=6:=an
  subst u;have v:=zFO w;have a:=zok w 6;have y:=fe (k:=.u64) a;have B:=d 0 an;have C:=d 1 an;simp[HG,ZD,DV,Da.cs,a,y];rw[<-v];simp[mF,b]
def zFQ[bQ G][dw G](d:Da)(n v:Nat)(hd:d.ok)(i:n<4294967296)(o:v<4294967296):FP G 233 [DV d,.int .u32 n,.int .u32 v] (DV (O5 d n v)):=by
 refine bD dw.agK (aaa rfl) ?_;have j:=zvc (G:=G) d hd;have l:=fe (k:=.u64) hd.2.2.2.1;have c:=hd.2.2.2.1;simp[DV,Da.cs] at j |-;refine ax (zvd n i) ?_
 by_cases h:n%4=0/\n<64
 ·have p:mr .u32 (n:Int) 4=((n/4:Nat):Int):=Ye (b:=4) i (by decide);have e:=Bx c;have q:=fe (k:=.u32) e;have r:=xO .u32 (j_ d) (n/4) v an
  have f:((j_ d).set (n/4) v).length=16:=by rw[aan];exact e
  have g:=fe (k:=.u32) f;have m:=zHi (G:=G) ((j_ d).set (n/4) v) f (zHe (YG hd) o)
  have a:(mF ((j_ d).set (n/4) v)).args.length=6:=by simp[mF]
  have s:=fe (k:=.u64) a;simp[DV,Da.cs] at m;simp[h,c,l,O5];refine ax j ?_;simp(disch:=omega)[p,bM,aC,e,r,f,g,-acy];refine ax m ?_;simp[a,s]
 ·simp[h,O5,c,l]
def b_(d:Da):List af->St->St×Nat
 | [],s=>(s,0)
 | x::w,s=>if(eM s x d).2 then((b_ d w (eM s x d).1).1,(b_ d w (eM s x d).1).2+1) else(s,0)
def E7(d:Da):∀(w:List af) (s:St),(b_ d w s).2<=w.length
 | [],s=>acv _
 | x::w,s=>by
  have:=E7 d w (eM s x d).1;simp only[b_,aaW];split
  ·simp only;omega
  ·simp
def E6{d:Da}(hd:d.ok):∀(w:List af) (s:St),s.ok->(∀ x∈w,x.k<4294967296)->(b_ d w s).1.ok
 | [],s,a,_=>a
 | x::w,s,a,b=>by
  have:=E6 hd w (eM s x d).1 (Hk a (b x ir) hd) (fun y c=>b y (by simp[c]));simp only[b_];split
  ·exact this
  ·exact a
def eT(s:St)(d:Da):List Nat:=s.a::s.x::(s.m++j_ d)
def u9(v:List Nat):St:=⟨v.getD 0 0,v.getD 1 0,(v.drop 2).take 16⟩
def zp5{s:St}{d:Da}(a:s.ok)(hd:d.ok):(eT s d).length=34:=by simp[eT,a.2.2.1,Bx hd.2.2.2.1]
def zxL{s:St}{d:Da}(b:s.ok)(hd:d.ok):∀ x∈eT s d,x<4294967296:=by
 intro x a;simp only[eT,aa_,aaY] at a
 rcases a with rfl|rfl|a|a
 ·exact b.1
 ·exact b.2.1
 ·exact b.2.2.2 x a
 ·exact YG hd x a
def uu(v:List Nat)(i:Nat):List Nat:=(v.drop 18).take i++aP (16-i)
def Ti{v:List Nat}(a:v.length=34){i:Nat}(hi:i<=16):(uu v i).length=16:=by simp[uu,a];omega
def zvD{v:List Nat}(b:∀ x∈v,x<4294967296)(i:Nat):∀ x∈uu v i,x<4294967296:=by
 intro x a;simp only[uu,aaY,aP,abm] at a
 rcases a with a|a
 ·exact b x (ab_ (aaz a))
 ·omega
def zFR{v:List Nat}(c:v.length=34){i:Nat}(hi:i<16):(uu v i).set i (v[18+i]' an)=uu v (i+1):=by
 apply abK;intro j
 have d:∀ i,i<=16->∀ j,(uu v i)[j]?=if j<i then v[18+j]? else if j<16 then some 0 else none:=by
  intro i hi j;rw[uu,List.getElem?_append,aaw,List.length_drop,c,aaG,abk]
  by_cases a:j<i
  ·rw[if_pos an,if_pos a,if_pos a]
  ·rw[if_neg an,if_neg a]
   by_cases b:j<16
   ·rw[if_pos b];simp[aP,abt];omega
   ·rw[if_neg b];simp[aP,abt];omega
 rw[aaU,Ti c an,d i an,d (i+1) an]
 by_cases e:i=j
 ·subst e;rw[if_pos rfl,if_pos hi,if_pos an,aae an]
 ·rw[if_neg e]
  by_cases a:j<i
  ·rw[if_pos a,if_pos an]
  ·rw[if_neg a]
   by_cases b:j<i+1
   ·omega
   ·rw[if_neg b]
def zDg{v:List Nat}(a:v.length=34)(b:∀ x∈v,x<4294967296){i:Nat}(hi:i<16):O5 (mF (uu v i)) (4*i) (v[18+i]' an)=mF (uu v (i+1)):=by rw[O5,if_pos ⟨an,an⟩,zDf (Ti a an) (zvD b i),show 4*i/4=i by omega,zFR a hi]
def zHj{v:List Nat}(a:v.length=34):uu v 16=v.drop 18:=by rw[uu,show aP (16-16)=[] from rfl,abe,aaq (by simp[a])]
def zLZ(v:List Nat):uu v 0=aP 16:=by simp[uu]
def zA0{s:St}{d:Da}(a:s.ok):(eT s d).drop 18=j_ d:=by simp only[eT,List.drop_succ_cons];rw[aaZ a.2.2.1]
def Vc{v:List Nat}(c:v.length=34)(a:∀ x∈v,x<4294967296):(u9 v).ok:=by
 have b:∀ i,v.getD i 0<4294967296:=by
  intro i;rw[abq]
  cases h:v[i]? with
  | none=>decide
  | some z=>exact a z (aau h)
 exact⟨b 0,b 1,by simp[u9,c],fun x d=>a x (ab_ (aaz d))⟩
def ztu[dR G][dx G][az G][ay G][bQ G][cT G][aN G][cU G](w:List af)(s:St)(d:Da)(F:w.length<=maxLen)(g:∀ x∈w,x.k<4294967296)(h:s.ok)(hd:d.ok)(j:aW w=true) :
  FP G 292 [FL w,SV s,DV d] (.a_ [SV (b_ d w s).1,.int .i64 ((b_ d w s).2:Nat)]):=by
 refine bD cU.aer (aaa rfl) ?_;have l:=Af (G:=G) w F g;rw[j] at l
 have N:w.length<=32:=by simp only[aW,aax,decide_eq_true_eq] at j;exact j.1
 have H:=h.2.2.1;have O:=fe (k:=.u32) H;have v:=hd.2.2.2.1;have I:=fe (k:=.u64) v;obtain⟨R,m⟩:∃ R,R=b_ d w s:=⟨_,rfl⟩;have J:=E7 d w s;have n:=E6 hd w s h g;rw[<-m] at J n |-;simp[FL] at l;simp[FL,SV,DV,St.cs,Da.cs];refine ax l ?_;simp
 refine wu (fun z:St×Nat=>w.length-z.2) (fun z=>[(0,FL w),(4,.ptr 0 0),(5,.ptr 1 0),(6,.ptr 2 0),(16,FL w),(17,.int .i64 w.length),(18,.int .i64 z.2)])
  (fun z=>[some (.cells z.1.cs),some (.cells d.cs),some (.cells (au .u32 (aP 18)))])
  (fun z=>z.2<=w.length/\z.1.ok/\(b_ d (w.drop z.2) z.1).1=R.1/\z.2+(b_ d (w.drop z.2) z.1).2=R.2) (s,0) ?_ ?_
 ·refine⟨⟨acv _,h,by simp[m],by simp[m]⟩,?_,?_⟩
  ·simp[av,FL]
  ·simp[aj,Da.cs,St.cs]
 rintro⟨t,i⟩ ⟨hi,f,a,b⟩;simp only at hi f a b;have c:=f.2.2.1;have o:=fe (k:=.u32) c
 by_cases p:i<w.length
 ·obtain⟨x,y⟩:∃ x,x=w[i]:=⟨_,rfl⟩
  have P:w[i]?=some x:=by rw[aae p,y]
  have q:=y.symm;have A:=aa2 p;rw[q] at A;have B:=g x (q▸aaE p);have C:x.cs=[.int .i64 x.op,.int .i64 x.jt,.int .i64 x.jf,.int .u32 (x.k:Int)]:=rfl;have e:=zxn (G:=G) t x d f B hd;have D:=Hk f B hd;have r:=D.2.2.1;have K:=fe (k:=.u32) r;have L:=Sb (k:=.u32) c;have u:au .u32 (aP 18)=.int .u32 0::.int .u32 0::au .u32 (aP 16):=rfl;rw[A] at a b;simp only[b_] at a b;simp[SV,IV,DV,C,St.cs,Da.cs] at e
  simp(disch:=omega)[bM,FL,q,C,St.cs,Da.cs,c,o,v,I,-aab];refine ax e ?_;cases E:(eM t x d).2
  ·rw[E] at a b;simp only[aav,if_false] at a b;simp[c,o,r,u,-aab];rw[<-a,<-b];simp
  ·rw[E] at a b;simp only[if_true] at a b;simp(disch:=omega)[c,r,K,L,bH,-aab];refine⟨((eM t x d).1,i+1),by simp only;omega,⟨by simp only;omega,D,a,by simp only;omega⟩,?_,?_⟩
   ·simp[av,-aab]
   ·simp[aj]
 ·have M:i=w.length:=an
  subst M;rw[List.drop_length] at a b;simp only[b_] at a b;have u:au .u32 (aP 18)=.int .u32 0::.int .u32 0::au .u32 (aP 16):=rfl;simp[FL,St.cs,Da.cs,c,o,u];rw[<-a,<-b];simp
def zxM(l:List af):(IL l=[])=(l=[]):=propext (QR l)
def rG(s:St)(d:Da)(i:Nat):List Nat:=s.a::s.x::(s.m++((j_ d).take i++aP (16-i)))
def UT{s:St}{d:Da}(a:s.ok)(hd:d.ok){i:Nat}(hi:i<=16):(rG s d i).length=34:=by simp[rG,a.2.2.1,Bx hd.2.2.2.1];omega
def UR{s:St}{d:Da}(hd:d.ok):rG s d 16=eT s d:=by rw[rG,show aP (16-16)=[] from rfl,abe,aaq (by rw[Bx hd.2.2.2.1];exact aa3 _),eT]
def zDh{s:St}{d:Da}(a:s.ok)(hd:d.ok){i:Nat}(hi:i<16):(rG s d i).set (18+i) ((j_ d).getD i 0)=rG s d (i+1):=by
 have f:=Bx hd.2.2.2.1;have b:=a.2.2.1
 have c:(j_ d).getD i 0=(j_ d)[i]'(by omega):=by simp[abq,aae (show i<(j_ d).length by omega)]
 rw[c]
 have e:18+i=(16+i)+1+1:=an
 simp only[rG,e,abI]
 congr 2
 rw[aay _ _ an,b,show 16+i-16=i by omega]
 congr 1
 rw[aay _ _ (by rw[aaw];omega),aaw,Nat.min_eq_left an,abA,List.take_succ_eq_append_getElem an,aaT]
 congr 1
 rw[show 16-i=(16-(i+1))+1 by omega];rfl
def zol[bQ G][cV G](s:St)(d:Da)(b:s.ok)(hd:d.ok):FP G 293 [SV s,DV d] (.agg (au .u32 (eT s d))):=by
 refine bD cV.aes (aaa rfl) ?_;have h:=b.2.2.1;have p:=fe (k:=.u32) h;have j:=hd.2.2.2.1;have q:=fe (k:=.u64) j;have n:au .u32 (aP 34)=.int .u32 0::.int .u32 0::au .u32 (aP 32):=rfl;have r:(au .u32 (aP 32)).drop 16=au .u32 (aP 16):=rfl
 have t:rG s d 0=s.a::s.x::(s.m++aP 16):=by simp[rG]
 have u:∀ l m:List Nat,au .u32 (l++m)=au .u32 l++au .u32 m:=fun l m=>by simp[au]
 simp[SV,DV,St.cs,Da.cs,n,h,p,r]
 refine aQ 16 (fun i=>[(3,.ptr 1 0),(4,.ptr 2 0),(5,.ptr 3 0),(17,.int .i64 i)])
  (fun i=>[some (.cells s.cs),some (.cells d.cs),some (.cells (au .u32 (aP 34))),some (.cells (au .u32 (rG s d i)))]) (fun _=>True) ?_ ?_
 ·have v:aX 4 (au .u32 s.m++au .u32 (aP 16))=au .u32 (s.m++aP 16):=by rw[<-u];simp
  simp[av,aj,St.cs,Da.cs,t,n,v];rfl
 intro i hi _
 by_cases o:i<16
 ·have c:=zxl (G:=G) d (4*i) hd an
  have w:ui d (4*i)=((j_ d).getD i 0,true):=by rw[ui,if_pos ⟨an,an⟩,show 4*i/4=i by omega]
  rw[w] at c;have e:=UT b hd hi;have f:=xO .u32 (rG s d i) (18+i) ((j_ d).getD i 0) an;rw[zDh b hd o] at f;obtain⟨x,y⟩:∃ x,x=(j_ d).getD i 0:=⟨_,rfl⟩;rw[<-y] at f c
  have z:aE .i64 18 (i:Int)=((18+i:Nat):Int):=by rw[show(18:Int)=((18:Nat):Int) from rfl];exact qM an
  have A:eO .i64 4 (i:Int)=((4*i:Nat):Int):=by unfold eO;rw[show(4:Int)*(i:Int)=((4*i:Nat):Int) by omega];exact IntWalk.i64_in _ ⟨an,an⟩
  have B:fV .u32 ((4*i:Nat):Int)=((4*i:Nat):Int):=by unfold fV;exact IntWalk.u32_in _ ⟨an,an⟩
  simp[DV,Da.cs,-aaD] at c;simp(disch:=omega)[bM,z,A,B,Da.cs,j,q,-aab,-aaD];refine ax c ?_;simp(disch:=omega)[bM,aC,e,f,o,bH,av,aj,St.cs,-aab,-aaD]
 ·have C:i=16:=an
  subst C;have e:=zp5 b hd;have D:=fe (k:=.u32) e;have g:=UR (s:=s) hd;simp[g,e,D]
def zwE[bQ G][dw G][bW G](v:List Nat)(b:v.length=34)(g:∀ x∈v,x<4294967296):FP G 294 [.agg (au .u32 v)] (.a_ [SV (u9 v),DV (mF (v.drop 18))]):=by
 refine bD bW.aet (aaa rfl) ?_;have O:=fe (k:=.u32) b;obtain⟨a,e⟩:∃ a,a=v[0]:=⟨_,rfl⟩;obtain⟨x,f⟩:∃ x,x=v[1]:=⟨_,rfl⟩
 have C:(au .u32 v).take 1=[.int .u32 (a:Nat)]:=by have:=sI .u32 v 0 an;rwa[ab5,<-e] at this
 have E:(au .u32 v).tail.take 1=[.int .u32 (x:Nat)]:=by have:=sI .u32 v 1 an;rwa[aa8,<-f] at this
 obtain⟨m,j⟩:∃ m,m=(v.drop 2).take 16:=⟨_,rfl⟩
 have l:m.length=16:=by rw[j];simp[b]
 have F:((au .u32 v).drop 2).take 16=au .u32 m:=by rw[j];simp[au,acC,List.map_take]
 have t:=fe (k:=.u32) l
 have n:u9 v=⟨a,x,m⟩:=by rw[e,f,j];simp[u9,abq,aae (show 0<v.length by omega),aae (show 1<v.length by omega)]
 have o:au .u32 (aP 18)=.int .u32 0::.int .u32 0::au .u32 (aP 16):=rfl;have H:(au .u32 (aP 16)).drop 16=[]:=rfl
 have I:mF (uu v 0)=⟨0,0,0,aP 6⟩:=by rw[zLZ];rfl
 have p:au .u64 (aP 6)=[.int .u64 0,.int .u64 0,.int .u64 0,.int .u64 0,.int .u64 0,.int .u64 0]:=rfl;simp[b,C,E,F,o,H,l,t]
 refine aQ 16 (fun i=>[(1,.ptr 0 0),(2,.ptr 1 0),(3,.ptr 2 0),(4,.ptr 3 0),(5,.ptr 4 0),(16,.int .i64 i)])
  (fun i=>[some (.cells (au .u32 v)),some (.cells (au .u32 (aP 18))),some (.cells ZD),some (.cells (St.cs ⟨a,x,m⟩)),some (.cells (mF (uu v i)).cs)]) (fun _=>True) ?_ ?_
 ·simp[av,aj,St.cs,Da.cs,I,o,p,ZD]
 intro i hi _;have u:=Mp (Ti b hi) (zvD g i);have c:=u.2.2.2.1;have h:=fe (k:=.u64) c
 by_cases w:i<16
 ·have d:=zFQ (G:=G) (mF (uu v i)) (4*i) (v[18+i]' an) u an (g _ (aaE _));rw[zDg b g w] at d;have q:=Mp (Ti b (show i+1<=16 by omega)) (zvD g (i+1));have r:=q.2.2.2.1;have s:=fe (k:=.u64) r;have z:=sI .u32 v (18+i) an;generalize mF (uu v i)=D at d c h;obtain⟨A,B⟩:∃ A,A=mF (uu v (i+1)):=⟨_,rfl⟩;rw[<-B] at d r s;obtain⟨y,J⟩:∃ y,y=v[18+i]'(by omega):=⟨_,rfl⟩
  rw[<-J] at d z
  have K:aE .i64 18 (i:Int)=((18+i:Nat):Int):=by rw[show(18:Int)=((18:Nat):Int) from rfl];exact qM an
  have L:eO .i64 4 (i:Int)=((4*i:Nat):Int):=by unfold eO;rw[show(4:Int)*(i:Int)=((4*i:Nat):Int) by omega];exact IntWalk.i64_in _ ⟨an,an⟩
  have M:fV .u32 ((4*i:Nat):Int)=((4*i:Nat):Int):=by unfold fV;exact IntWalk.u32_in _ ⟨an,an⟩
  simp[DV,Da.cs,-aaD] at d;simp(disch:=omega)[bM,aC,K,L,M,Da.cs,c,h,b,z,-aab,-aaD];refine ax d ?_;simp(disch:=omega)[w,bH,av,aj,St.cs,ZD,c,r,<-B,Sb (k:=.u64) c,-aab,-aaD]
 ·have N:i=16:=an
  subst N;rw[zHj b] at c h |-;simp[St.cs,Da.cs,ZD,c,h,l,t,o,n,SV,DV]
variable {L L':List Nd} {v:List Nat}
def zvF{n:Nat}(h:n<L.length):cA L (n:Int)=true:=by simp[cA];exact h
def Lp{k:Nat}{x:Int}(e:Ext L L' k)(h:cA L x=true):cA L' x=true/\dj v L' x=dj v L x:=by
 obtain⟨a,b⟩:0<=x/\x<L.length:=by simpa[cA] using h
 obtain⟨n,rfl⟩:=aat a;have:=e.pre.length_le;exact⟨zvF an,Ll e an⟩
def vI.has{q:Int×List Nd}{o:Option Nat}(h:vI v q o):cA q.2 q.1=true/\dj v q.2 q.1=o:=by obtain⟨n,a,b,c⟩:=h;rw[a];exact⟨zvF b,c⟩
def pt(t:St):List Nat:=t.a::t.x::t.m
structure PV (v:List Nat) (L:List Nd) (p:List Int) (t:St):Prop where
 len:p.length=18
 val:∀ i,i<18->cA L (p.getD i 0)=true/\dj v L (p.getD i 0)=some ((pt t).getD i 0)
def zHk{t:St}(h:t.ok):(pt t).length=18:=by simp[pt,h.2.2.1]
def PV.set{p:List Int}{t a:St}{k i n:Nat}{x:Int}(h:PV v L p t)(e:Ext L L' k)(c:cA L' x=true)(d:dj v L' x=some n)(hi:i<18)(f:(pt t).length=18)(g:pt a=(pt t).set i n):PV v L' (p.set i x) a:=by
 refine⟨by rw[aan];exact h.len,fun j l=>?_⟩;rw[g,aah,aah,aaU,aaU]
 by_cases b:i=j
 ·subst b;simp only[if_true,h.len,f,hi,aa5];exact⟨c,d⟩
 ·simp only[b,if_false,<-aah];obtain⟨m,o⟩:=h.val j l;obtain⟨q,r⟩:=Lp (v:=v) e m;exact⟨q,by rw[r,o]⟩
def PV.same{p:List Int}{t:St}{k:Nat}(h:PV v L p t)(e:Ext L L' k):PV v L' p t :=
 ⟨h.len,fun j a=>by obtain⟨b,c⟩:=h.val j a;obtain⟨d,f⟩:=Lp (v:=v) e b;exact⟨d,by rw[f,c]⟩⟩
def zrf{op:Int}(h:(bw op).2.2=true):(dm (bw op).1 0 1).2=true:=by
 unfold bw at h |-;split at h
 ·rename_i a;rw[if_pos a];simp only[aa_,abQ,or_false] at a
  rcases a with rfl|rfl|rfl|rfl|rfl|rfl|rfl|rfl|rfl<;>decide
 ·rename_i b;rw[if_neg b];split at h
  ·rename_i a;rw[if_pos a];simp only[aa_,abQ,or_false] at a
   rcases a with rfl|rfl|rfl|rfl|rfl|rfl|rfl|rfl|rfl<;>decide
  ·cases h
def zDi{s:VS}{t:St}{I:St}{d:Da}{x:af}(hi:Inv s.L)(h:PV (eT I d) s.L s.p t)(P:I.ok)(hd:d.ok)(Y:t.ok)(Z:x.k<4294967296)(J:mK x=true)(K:(eM t x d).2=true) :
  PV (eT I d) (fJ s x).L (fJ s x).p (eM t x d).1:=by
 have E:=zp5 P hd;have M:=zxL P hd;obtain⟨v,F⟩:∃ v,v=eT I d:=⟨_,rfl⟩
 have Q:∀ j,j<16->v[18+j]?.getD 0=(j_ d).getD j 0:=fun j hj=>by
  have:=zA0 (d:=d) P;rw[<-F] at this;rw[aah,<-this,abk]
 rw[<-F] at h E M |-;have hl:=zHk Y
 have G:∀(q:Int×List Nd) (n:Nat),vI v q (some n)->∀(i k:Nat) (w:St),Ext s.L q.2 k->i<18->pt w=(pt t).set i n->PV v q.2 (s.p.set i q.1) w:=fun q n R i k w e S T=>by
  obtain⟨m,b⟩:=R.has;exact h.set e m b S hl T
 have C:∀(i j:Nat) (w:St),i<18->j<18->pt w=(pt t).set i ((pt t).getD j 0)->PV v s.L (s.p.set i (s.p.getD j 0)) w:=fun i j w S hj T=>by
  obtain⟨m,b⟩:=h.val j hj;exact h.set (.refl hi 0) m b S hl T
 have U:vI v (ba s.L (eZ (x.k::aP 34))) (some x.k):=ztr hi E Z;have V:Ext s.L (ba s.L (eZ (x.k::aP 34))).2 1:=(wB hi (zD ir (CM Z) _)).1
 have N:x.op=96\/x.op=97\/x.op=2\/x.op=3->x.k<16:=fun u=>by
  simp only[mK,aax] at J;have b:=J.2
  rcases u with u|u|u|u<;>simp[nH,u] at b<;>exact b
 have W:x.op=32->x.k%4=0/\x.k<64:=fun u=>by
  simp only[mK,aax] at J;have b:=J.2;simp[nH,u] at b;exact b
 cases D:(bw x.op).2.2 with
 | true =>
  rw[eM,if_pos D] at K;simp only at K
  have z:(eM t x d).1={ t with a:=(ny t x).1 }:=by rw[eM,if_pos D];simp only[K,if_true]
  rw[z,fJ,if_pos D]
  have jI:Ext s.L (uo s x).2 1/\cA (uo s x).2 (uo s x).1=true/\dj v (uo s x).2 (uo s x).1=some (kW t x):=by
   rw[uo,kW]
   cases hb:(bw x.op).2.1 with
   | true =>
    simp only[if_true];obtain⟨m,b⟩:=h.val 1 an
    exact⟨.refl hi 1,m,b⟩
   | false =>
    simp only[aav,if_false];obtain⟨m,b⟩:=U.has;exact⟨V,m,b⟩
  obtain⟨O,b1,b2⟩:=jI;obtain⟨p1,p2⟩:=h.val 0 an;obtain⟨p3,p4⟩:=Lp (v:=v) O p1;have r:=zxJ (v:=v) (kind:=(bw x.op).1) (x:=s.p.getD 0 0) (y:=(uo s x).1) O.inv E M (zrf D) p3 b1;rw[p4,p2,b2] at r;have ha:(pt t).getD 0 0=t.a:=rfl;have R:gB (bw x.op).1 (some t.a) (some (kW t x))=some (ny t x).1:=Tb K;rw[ha,R] at r
  exact G _ _ r 0 3 _ (O.trans (Z7 O.inv)) an rfl
 | false =>
  have z:(eM t x d).1=kC t x d:=by rw[eM,if_neg (by simp[D])]
  rw[z,fJ,if_neg (by simp[D]),kC]
  by_cases c:x.op=0
  ·simp only[c,if_true];exact G _ _ U 0 1 _ V an rfl
  by_cases f:x.op=1
  ·simp only[f,if_true];exact G _ _ U 1 1 _ V an rfl
  by_cases g:x.op=32
  ·obtain⟨k4,X⟩:=W g;have r:=zxK (v:=v) (i:=((18+x.k/4:Nat):Int)) hi E M an an;rw[aa0,Q _ an] at r
   have hw:(ui d x.k).1=(j_ d).getD (x.k/4) 0:=by rw[ui,if_pos ⟨k4,X⟩]
   rw[if_neg c,if_neg f,if_pos g,if_neg c,if_neg f,if_pos g]
   have e:((18+x.k/4:Nat):Int)=18+((x.k/4:Nat):Int):=an
   rw[e] at r;exact G _ _ r 0 1 _ (Li hi) an (by rw[hw];rfl)
  by_cases l:x.op=96
  ·have A:=N (.inl l);rw[if_neg c,if_neg f,if_neg g,if_pos l,if_neg c,if_neg f,if_neg g,if_pos l];exact C 0 (2+x.k) _ an an (by rw[z7,if_pos A];simp only[pt,abn];rw[show 2+x.k=x.k+1+1 by omega,aa7,aa7])
  by_cases o:x.op=97
  ·have A:=N (.inr (.inl o));rw[if_neg c,if_neg f,if_neg g,if_neg l,if_pos o,if_neg c,if_neg f,if_neg g,if_neg l,if_pos o];exact C 1 (2+x.k) _ an an (by rw[z7,if_pos A];simp only[pt,abI,abn];rw[show 2+x.k=x.k+1+1 by omega,aa7,aa7])
  by_cases B:x.op=2
  ·have A:=N (.inr (.inr (.inl B)));rw[if_neg c,if_neg f,if_neg g,if_neg l,if_neg o,if_pos B,if_neg c,if_neg f,if_neg g,if_neg l,if_neg o,if_pos B];exact C (2+x.k) 0 _ an an (by rw[wy,if_pos A,show 2+x.k=x.k+1+1 by omega];rfl)
  by_cases H:x.op=3
  ·have A:=N (.inr (.inr (.inr H)));rw[if_neg c,if_neg f,if_neg g,if_neg l,if_neg o,if_neg B,if_pos H,if_neg c,if_neg f,if_neg g,if_neg l,if_neg o,if_neg B,if_pos H];exact C (2+x.k) 1 _ an an (by rw[wy,if_pos A,show 2+x.k=x.k+1+1 by omega];rfl)
  rw[if_neg c,if_neg f,if_neg g,if_neg l,if_neg o,if_neg B,if_neg H,if_neg c,if_neg f,if_neg g,if_neg l,if_neg o,if_neg B,if_neg H]
  by_cases ur:x.op=132
  ·obtain⟨p1,p2⟩:=h.val 0 an;have r:=zFN (v:=v) hi E M p1;rw[p2] at r;simp only[ur,if_true];exact G _ (sh t.a) r 0 3 _ (Z8 hi) an rfl
  by_cases o7:x.op=7
  ·simp only[o7,if_true];have m:=C 1 0 { t with x:=t.a } an an rfl;obtain⟨p1,p2⟩:=h.val 0 an;exact m.set (.refl hi 0) p1 p2 an (by simp[pt,Y.2.2.1]) rfl
  by_cases xC:x.op=135
  ·simp only[xC,if_true];exact C 0 1 _ an an rfl
  simp only[ur,o7,xC,if_false];exact h
def j4(w:List af)(n:Nat):Nat:=(w.take n).countP fun x=>decide (x.op=60)
def JZ(x:af)(w:List af)(n:Nat):j4 (x::w) (n+1)=(if x.op=60 then 1 else 0)+j4 w n:=by simp only[j4,ach,List.countP_cons,decide_eq_true_eq];omega
def zp7{op:Int}:(bw op).2.1=true/\(bw op).1=52↔op=60:=by
 constructor
 ·rintro⟨a,b⟩;unfold bw at a b;split at a
  ·cases a
  ·rename_i c;rw[if_neg c] at b;split at a
   ·rename_i d;rw[if_pos d] at b;simp only at b;omega
   ·cases a
 ·rintro rfl;decide
def zFS:bw 60=(52,true,true):=by decide
def zsj(s:VS)(x:af):(fJ s x).st=s.st++(if x.op=60 then [s.p.getD 1 0] else []):=by
 by_cases h:x.op=60
 ·have a:(bw x.op).2.2=true:=by rw[h];decide
  rw[fJ,if_pos a,if_pos h];simp only[zp7.2 h,and_self,if_true]
 ·rw[if_neg h,abe,fJ];split
  ·simp only[show¬((bw x.op).2.1=true/\(bw x.op).1=52) from fun b=>h (zp7.1 b),if_false]
  ·repeat (first|rfl|split)
def zA1{kind:Int}{a b:Nat}(d:(dm kind 0 1).2=true)(h:(dm kind a b).2=false):kind=52/\b=0:=by
 unfold dm at d h
 by_cases e:kind=52
 ·subst e;refine⟨rfl,?_⟩
  by_cases c:b=0
  ·exact c
  ·simp[c] at h
 ·exfalso
  repeat' split at h
  all_goals first|(cases h;done)|skip
  all_goals simp_all
def zvG{t:St}{x:af}{d:Da}(e:mK x=true)(h:(eM t x d).2=false):x.op=60/\t.x=0:=by
 rw[eM] at h;split at h
 ·rename_i f;simp only at h;obtain⟨b,c⟩:=zA1 (zrf f) h
  cases a:(bw x.op).2.1 with
  | true =>
   rw[kW,if_pos a] at c
   exact⟨zp7.1 ⟨a,b⟩,c⟩
  | false =>
   exfalso;rw[kW,a,if_neg ir] at c
   have:x.op=52:=by
    unfold bw at b a;split at b
    ·exact b
    ·rename_i g;rw[if_neg g] at a;split at b
     ·rename_i i;rw[if_pos i] at a;cases a
     ·cases b
   simp only[mK,nH,this,aax] at e;simp at e;omega
 ·cases h
def zHl{t:St}{x:af}{d:Da}(h:(eM t x d).2=true)(a:x.op=60):t.x≠0:=by intro b;rw[eM,if_pos (by rw[a];decide)] at h;simp only[ny,kW,a,zFS,if_true,b] at h;simp[dm] at h
def ztv{s:VS}{x:af}(hi:Inv s.L)(a:s.p.length=18)(b:x.k<4294967296):Ext s.L (fJ s x).L 3/\(fJ s x).p.length=18:=by have:=zvz (L:=s.L) (s:=s) (k:=0) (n:=s.st.length) ⟨.refl hi 0,a,aa3 _⟩ b;exact⟨this.ext,this.len⟩
def zvH:∀(w:List af) {s:VS},Inv s.L->s.p.length=18->(∀ x∈w,x.k<4294967296)->Ext s.L (w.foldl fJ s).L (3*w.length)/\(w.foldl fJ s).p.length=18
 | [],s,hi,a,_=>⟨.refl hi _,a⟩
 | x::w,s,hi,a,b=>by
  obtain⟨c,d⟩:=ztv hi a (b x ir);obtain⟨e,f⟩:=zvH w (s:=fJ s x) c.inv d fun y g=>b y (by simp[g]);exact⟨(c.trans e).mono (by simp;omega),f⟩
def zxN:∀(w:List af) (s:VS),∃ a,(w.foldl fJ s).st=s.st++a/\a.length=j4 w w.length
 | [],s=>⟨[],ir,by simp[j4]⟩
 | x::w,s=>by
  obtain⟨a,b,c⟩:=zxN w (fJ s x);refine⟨(if x.op=60 then [s.p.getD 1 0] else [])++a,by rw[abZ,b,zsj,aaT],?_⟩;rw[aaW,JZ,aaM,c]
  split<;>rfl
structure WV (v:List Nat) (L:List Nd) (p st:List Int) (w:List af) (d:Da) (t:St):Prop where
 num:st.length=j4 w w.length
 ahead:∀ i,i<j4 w (b_ d w t).2->∃ x n,st[i]?=some x/\cA L x=true/\dj v L x=some n/\n≠0
 stop:(b_ d w t).2<w.length->∃ x,st[j4 w (b_ d w t).2]?=some x/\cA L x=true/\dj v L x=some 0
 done:(b_ d w t).2=w.length->PV v L p (b_ d w t).1
def ztw{q:St}{d:Da}(C:q.ok)(hd:d.ok):∀(w:List af) {s:VS} {t:St},Inv s.L->PV (eT q d) s.L s.p t->t.ok->(∀ x∈w,x.k<4294967296)->(∀ x∈w,mK x=true) ->
  ∃ a,(w.foldl fJ s).st=s.st++a/\WV (eT q d) (w.foldl fJ s).L (w.foldl fJ s).p a w d t
 | [],s,t,hi,l,u,_,_=>⟨[],ir,by simp[j4],fun i h=>by simp[j4] at h,fun h=>by simp[b_] at h,fun _=>l⟩
 | x::w,s,t,hi,l,u,D,E=>by
  have c:=D x ir;have F:=E x ir;obtain⟨z,J⟩:=ztv hi l.len c;have G:∀ y∈w,y.k<4294967296:=fun y A=>D y (by simp[A]);obtain⟨K,U⟩:=zvH w (s:=fJ s x) z.inv J G;have e:=z.trans K;obtain⟨q1,M⟩:=l.val 1 an;obtain⟨H,r⟩:=Lp (v:=eT q d) e q1;rw[M] at r;have N:(pt t).getD 1 0=t.x:=rfl;rw[N] at r;rw[abZ]
  cases m:(eM t x d).2 with
  | true =>
   have O:=zDi hi l C hd u c F m;have P:=Hk u c hd;obtain⟨a,n1,B⟩:=ztw C hd w z.inv O P G fun y A=>E y (by simp[A])
   have f:b_ d (x::w) t=((b_ d w (eM t x d).1).1,(b_ d w (eM t x d).1).2+1):=by simp only[b_,m,if_true]
   obtain⟨Q,I,R,S⟩:=B;refine⟨(if x.op=60 then [s.p.getD 1 0] else [])++a,by rw[n1,zsj,aaT],?_,?_,?_,?_⟩
   ·rw[aaW,JZ,aaM,Q]
    split<;>rfl
   ·rw[f];intro i g;simp only[JZ] at g
    by_cases b:x.op=60
    ·rw[if_pos b] at g |-
     cases i with
     | zero=>exact⟨_,_,rfl,H,r,zHl m b⟩
     | succ i =>
      obtain⟨y,n,j,o⟩:=I i an;exact⟨y,n,by simpa using j,o⟩
    ·rw[if_neg b] at g |-;obtain⟨y,n,j,o⟩:=I i an;exact⟨y,n,by simpa using j,o⟩
   ·rw[f];intro g;simp only[JZ,aaW] at g |-;obtain⟨y,j,o⟩:=R an;refine⟨y,?_,o⟩
    by_cases b:x.op=60
    ·rw[if_pos b,if_pos b,abB];simpa using j
    ·rw[if_neg b,if_neg b,acj];simpa using j
   ·rw[f];intro h;simp only[aaW] at h
    exact S an
  | false =>
   obtain⟨b,T⟩:=zvG F m
   have f:b_ d (x::w) t=(t,0):=by simp only[b_,m,aav,if_false]
   obtain⟨a,n1,B⟩:=zxN w (fJ s x);refine⟨(if x.op=60 then [s.p.getD 1 0] else [])++a,by rw[n1,zsj,aaT],?_,?_,?_,?_⟩
   ·rw[aaW,JZ,aaM,B]
    split<;>rfl
   ·rw[f];intro i g;simp[j4] at g
   ·rw[f];intro _;rw[if_pos b];exact⟨_,rfl,H,by rw[r,T]⟩
   ·rw[f];intro h;simp at h
def Vm{s:St}{d:Da}(a:s.ok){i:Nat}(hi:i<18):(eT s d).getD i 0=(pt s).getD i 0:=by
 have b:=a.2.2.1
 have e:eT s d=pt s++j_ d:=by simp[eT,pt]
 rw[e,aah,aah,aam (by simp[pt,b];omega)]
def zDj{s:St}{d:Da}(hi:Inv L)(b:s.ok)(hd:d.ok):PV (eT s d) (ki L 18).L (ki L 18).p s:=by
 have e:=zp5 b hd;have f:=zxL b hd
 have a:∀ n,n<=18->∀ i,i<n->cA (ki L n).L ((ki L n).p.getD i 0)=true/\dj (eT s d) (ki L n).L ((ki L n).p.getD i 0)=some ((pt s).getD i 0):=by
  intro n
  induction n with
  | zero=>intro _ i h;omega
  | succ n g =>
   intro t i u;have c:=Lo hi n;rw[Th,ED];simp only;have r:=zxK (v:=eT s d) (i:=(n:Int)) c.ext.inv e f an an;obtain⟨j,k⟩:=r.has
   by_cases h:i=n
   ·subst h;rw[aah,aaU,if_pos rfl,if_pos (by rw[c.len];omega),aa5];refine⟨j,?_⟩;rw[k,aa0,<-aah,Vm b an]
   ·rw[aah,aaU,if_neg an,<-aah];obtain⟨l,m⟩:=g an i an;obtain⟨o,q⟩:=Lp (v:=eT s d) (Li c.ext.inv) l;exact⟨o,by rw[q,m]⟩
 exact⟨(Lo hi 18).len,fun i h=>a 18 (aa3 _) i h⟩
def QO{s:St}{d:Da}{w:List af}(hi:Inv L)(a:s.ok)(hd:d.ok)(g:∀ x∈w,x.k<4294967296)(c:aW w=true):WV (eT s d) (aH L w).L (aH L w).p (aH L w).st w d s:=by
 have b:∀ x∈w,mK x=true:=by simp only[aW,aax,aa4] at c;exact c.2
 obtain⟨h,e,f⟩:=ztw a hd w (Lo hi 18).ext.inv (zDj hi a hd) a g b;rw[zvA,aba] at e;rw[<-e] at f;exact f
def WV.ext{p st:List Int}{w:List af}{d:Da}{t:St}{k:Nat}(h:WV v L p st w d t)(e:Ext L L' k):WV v L' p st w d t:=by
 have l:∀{x:Int} {o:Option Nat},cA L x=true->dj v L x=o->cA L' x=true/\dj v L' x=o:=fun a b=>by
  obtain⟨m,q⟩:=Lp (v:=v) e a;exact⟨m,by rw[q,b]⟩
 refine⟨h.num,fun i hi=>?_,fun f=>?_,fun f=>(h.done f).same e⟩
 ·obtain⟨x,n,a,b,c,d⟩:=h.ahead i hi;obtain⟨g,j⟩:=l b c;exact⟨x,n,a,g,j,d⟩
 ·obtain⟨x,a,b,c⟩:=h.stop f;obtain⟨g,j⟩:=l b c;exact⟨x,a,g,j⟩
def lD(s:St)(n:Nat):aX n s.cs=s.cs:=by simp[St.cs,V.cl,ia,au,aaJ]
def yK(d:Da)(n:Nat):aX n d.cs=d.cs:=by simp[Da.cs,V.cl,ia,au,aaJ]
def L7(s:St):s.cs.map V.jq=s.cs:=by simp[St.cs,au,aaJ,V.jq]
def Cb(d:Da):d.cs.map V.jq=d.cs:=by simp[Da.cs,au,aaJ,V.jq]
def JH{s:St}(h:s.ok):s.cs.length=18:=by simp[St.cs,h.2.2.1]
def C9{d:Da}(h:d.ok):d.cs.length=9:=by simp[Da.cs,h.2.2.2.1]
end Go.Ev
