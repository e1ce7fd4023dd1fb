/- A policy read off any text: contract. -/
import Derived.Test.YtbkhoemaobbplaaGreatDoorSrcAW
import Derived.Test.YtbkhoemaobbplaaGreatDoorEvWinCW
import Derived.Test.YtbkhoemaobbplaaGreatDoorCheckBW
set_option linter.defProp false
set_option linter.unusedSimpArgs false
set_option linter.unusedVariables false
set_option maxHeartbeats 32000000
set_option maxRecDepth 10000
open Int renaming natCast_add→aaa,natCast_mul→aaz,natCast_emod→aaH,natCast_ediv→aaV
open Nat renaming le_of_ble_eq_true→aab,mod_eq_of_lt→aay,le_refl→aaA,eq_or_lt_of_le→aaP,le_trans→aaQ,lt_succ_iff_lt_or_eq→aaW,mod_lt→aaY,sub_self→aa1,zero_le→aa4,two_pow_add_eq_or_of_lt→abe,xor_lt_two_pow→abf,zero_add→abh,add_assoc→abo,add_zero→abt,pow_succ→abu,sub_zero→abO,lt_or_ge→abP,mul_comm→abQ,or_comm→abR,mod_one→abS
open List renaming getElem?_eq_getElem→aac,getElem?_eq_some_iff→aae,mem_of_getElem?→aaf,mem_map→aag,mem_append→aah,mem_of_mem_take→aai,length_take→aaj,getElem?_append_right→aal,mem_of_mem_drop→aam,map_append→aan,take_add_one→aao,mem_singleton→aap,take_of_length_le→aaq,getD_eq_getElem?_getD→aar,getElem?_set_ne→aas,getElem?_of_mem→aat,take_length→aau,getElem?_append_left→aav,length_append→aaw,length_drop→aax,set_append_right→aaB,all_eq_true→aaD,getElem?_set_self→aaE,nodup_append→aaF,getElem?_map→aaG,drop_eq_getElem_cons→aaI,append_assoc→aaJ,length_eq_zero_iff→aaK,length_pos_iff→aaL,length_set→aaR,map_cons→aaS,cons_append→aaU,takeWhile_append_dropWhile→aaX,mem_cons→aaZ,getElem?_drop→aa0,getElem?_take→aa2,replicate→aa3,length_cons→aa5,length_filter_le→aa6,length_nil→aa7,map_nil→aa8,set_append_left→aa9,length_map→aa_,range→aba,map_congr_left→abb,length_take_le→abc,map_set→abi,getElem_mem→abj,mem_filter→abk,drop_eq_nil_of_le→abm,drop_eq_nil_iff→abn,getElem?_range→abp,filter_append→abq,map_map→abr,foldl_append→abw,getElem?_set→abx,length→aby,drop_length→abA,not_mem_nil→abB,mem_flatMap→abD,ext_getElem→abE,nil_append→abF,append_nil→abH,drop_drop→abI,drop_zero→abK,take_zero→abL,map_take→abM
open Bool renaming and_eq_true→aak,eq_iff_iff→abl,true_and→abN
open Option renaming map→aaC,map_eq_some_iff→aaM,some→aaN,toList_some→abg,getD_none→abz,map_some→abG
open BitVec renaming toNat_ofNat→aaO,toNat_xor→abC
open UInt8 renaming ofNat→aaT,toNat_ofNat'→abv
open Prod renaming ext→abd,mk→abJ
namespace Go.Ev
open Go Go.RowKit
variable {G:aN}
def P5:V:=.agg [.vs [] .no,.int .u32 0]
def nA(r:GF):V:=.bc [.agg r.1.cs,.int .i64 (r.2.1:Nat),.int .i64 (r.2.2:Nat)]
def zD4(w:List UInt8):fP 32 w=fJ (fP 32 w) []::aW (fP 32 w):=by
 have:=A5 32 w
 cases h:fP 32 w with
 | nil=>exact absurd h this
 | cons a b=>rfl
def zts[cK G][bM G][cU G][cN G][fN G][dH G](S:List UInt8)(ha:S.length<=20000):FP G 467 [.str S] (nA (fk S)):=by
 refine bF dH.aeT (aab rfl) ?_;have Wu:(20000<(S.length:Int))=False:=eq_false an;obtain⟨T,z6⟩:∃ r,r=fk S:=⟨_,rfl⟩;rw[<-z6];simp[Wu]
 refine uW (S:=Nat×Nat×List Ru×Option Nat) (fun s=>S.length-(s.1+s.2.1)) (fun s=>[(0,.str S),(2,.ptr 0 0),(5,.ptr 1 0),(6,.int .i64 (s.1:Nat)),(7,.bool s.2.2.2.isSome),(20,.ptr 2 0)])
  (fun s=>[some (.cells [.vs [] .full,.int .u32 0]),some (.cells [.vs (RL s.2.2.1) (.own 3),.int .u32 (s.2.2.2.getD 0:Nat)]),some (.dg S (s.1+s.2.1)),some (.zone s.2.2.1.length)])
  (fun s=>s.1<=S.length/\s.2.1<=(eX 10 (S.drop s.1)).length/\s.2.2.1.length<=64/\sV s.1 s.2.2.1 s.2.2.2 (fP 10 (S.drop s.1))=T) (0,0,[],none) ?_ ?_
 ·refine⟨⟨aa4 _,aa4 _,ir,by rw[z6];rfl⟩,?_,?_⟩
  ·simp[aq]
  ·simp[ai,aw.cl,aX,V.cl,Tk.cl,RL]
 rintro⟨o,j,rs,B⟩ ⟨p1,p2,p3,p4⟩;simp only at p1 p2 p3 p4 |-;obtain⟨w1,w2,w3,w4,w5⟩:=Cs 10 (S.drop o)
 have rS:(S.drop o).length=S.length-o:=by simp
 rw[Wv] at p4
 have nN:gn 10 (S.drop o)=S.drop (o+(eX 10 (S.drop o)).length+1):=by unfold gn;rw[abI];congr 1
 rw[nN,rS] at p4;obtain⟨w,U⟩:∃ w,w=eX 10 (S.drop o):=⟨_,rfl⟩;rw[<-U] at p2 p4 w1 w2 w3 w4 w5;rw[rS] at w1 w4;have he:∀ i,o<=i->i<o+w.length->S[i]?≠some 10:=fun i J F h=>w3 (i-o) an (by rw[aa0,show o+(i-o)=i by omega];exact h)
 have K:o+w.length<S.length->S[o+w.length]?=some 10:=fun h=>by have:=w4 an;rwa[aa0] at this
 by_cases hj:j<w.length
 ·obtain⟨r,n,u,hr,hn,iT⟩:=Ww (t:=S) (m:=10) (by decide) (i:=o+j) (k:=o+w.length) an an (fun i J F=>he i an F) K
  have h5:o+j<S.length:=an
  have cE:((r:Int) !=10)=true:=by have q:r≠10:=hr;simp;omega
  simp[h5,u,cE,-aaa];refine⟨(o,j+n,rs,B),?_,⟨p1,by rw[<-U];simp only;omega,p3,?_⟩,?_,?_⟩
  ·simp only;omega
  ·simp only;rw[Wv,<-U,rS,nN,<-U];exact p4
  ·simp[aq]
  ·simp[ai,aw.cl,aX,V.cl,Tk.cl,abo]
 have L:j=w.length:=an
 subst L
 by_cases g:o+w.length<S.length
 ·rw[if_pos an] at p4;obtain⟨q,M⟩:∃ q,q=o+w.length:=⟨_,rfl⟩;have u:=GG (K g) (by decide);rw[<-M] at u g p4 |-
  have N:(S.drop o).take (q-o)=w:=by rw[show q-o=w.length by omega];exact w2
  have O:((o:Int)<=(q:Int))=True:=eq_true an;have P:((q:Int)<=(S.length:Int))=True:=eq_true an
  have e3:aD .i64 (q:Int) 1=((q+1:Nat):Int):=by rw[dW]<;>omega
  have W:=A5 10 (S.drop (q+1));obtain⟨dv,X⟩:∃ dv:Int,dv=((B.getD 0:Nat):Int):=⟨_,rfl⟩;obtain⟨D,z⟩:∃ D:List UInt8->Bool->Bool->ae,∀ s e d,D s e d=[some (.cells [.vs [] .full,.int .u32 0]),some (.cells [.vs (RL rs) (.own 3),.int .u32 dv]),some (.dg S (q+1)),some (.zone rs.length),some (.cells [.str s,.bool e,.bool d])]:=⟨_,fun _ _ _=>rfl⟩
  have hg:∀ s e d,fY (D s e d):=fun s e d m hm=>by
   rw[z] at hm |-;simp only[aa5,aa7] at hm;simp[aw.cl,aX,V.cl,Tk.cl,show 3<m by omega]
  have Y:∀ s e d s' e' d',eN (D s e d) 4 s' e' d'=D s' e' d':=fun s e d s' e' d'=>by rw[z,z];rfl
  have Z:∀ s e d,sW (D s e d) 4 s e d:=fun s e d=>⟨by rw[z];rfl,hg s e d⟩;obtain⟨f,hf⟩:∃ f,f=fJ (fP 32 w) []:=⟨_,rfl⟩;obtain⟨ws,sX⟩:∃ ws,ws=aW (fP 32 w):=⟨_,rfl⟩
  have a:fP 32 w=f::ws:=by rw[hf,sX];exact zD4 w
  have Q:∀ x∈ws,fA x:=fun x hx=>P_ w x (by rw[a];simp[hx])
  have L:aK (f::ws)=w:=by rw[<-a];exact Qa w
  have hk:(aK ws).length<=w.length:=by rw[<-L];exact Wx f ws
  have q1:=GH (G:=G) (H:=D w false false) (b:=4) (l:=[]) (ws:=f::ws) (d:=false) (by rw[<-a];exact P_ w) (by
   rw[show dY [] (f::ws)=w by rw[dY,if_neg ir,L],show ba (f::ws)=false by simp[ba]];exact Z w false false) (by rw[L];omega)
  rw[show fJ (f::ws) []=f from rfl,show aW (f::ws)=ws from rfl,show ba (f::ws)=false by simp[ba],Y,Bool.or_false] at q1
  have GI:T=(kG,o,2)->nA T=.bc [P5,.int .i64 o,.int .i64 2]:=fun h=>by rw[h];rfl
  rw[<-X]
  by_cases Wy:f=[111,110]/\B=none
  ·obtain⟨p,rfl⟩:=Wy;simp only[abz] at X;simp only[sV,W,if_false] at p4;have DP:sW (D (dY f ws) (ba ws) false++[none]) 4 (dY f ws) (ba ws) false:=(Z _ _ _).GJ (fun n=>rfl);obtain⟨s,e,C,x,c,g1,g2⟩:=zA5 (G:=G) Q DP an;rw[Qb (by rw[z];simp),Y] at c;have jl:((rs.length+1)*40<=140737488355328)=True:=eq_true an;have D8:(∀ f∈RL rs,f.length=4)=True:=eq_true (by intro f hf;simp only[RL,aag] at hf;obtain⟨y,_,rfl⟩:=hf;rfl)
   have dT:RL rs++[x.cs]=RL (rs++[x]):=by simp[RL]
   have xA:(f==[111,110])=true:=by simpa using p
   simp only[z,Ru.cs,aaU,abF] at q1 c dT
   cases hb:C with
   | true =>
    have E:ui w=none:=D9 fun y hy=>g2 hb y hy.1.1 hy.1.2 (by rw[hy.2,a,p])
    have hd:nC w=none:=by
     cases h:nC w with
     | none=>rfl
     | some v=>have:=zr3 h;rw[a] at this;rw[show fJ (f::ws) []=f from rfl,p] at this;cases this
    rw[E,hd] at p4;simp only at p4;rw[hb] at c;rw[GI p4.symm,P5];simp[g,u,N,O,P,-aaa];refine cC q1 ?_;simp[xA,-aaa];refine cC c ?_
    simp[jl,D8,dT,e3,-aaa]
   | false =>
    obtain⟨x1,x2,x3⟩:=g1 hb;have E:ui w=some x:=zt4 ⟨x1,x2⟩ (by rw[x3,a,p]);rw[E] at p4;simp only at p4;rw[hb] at c;simp[g,u,N,O,P,-aaa];refine cC q1 ?_;simp[xA,-aaa];refine cC c ?_
    by_cases yz:64<=rs.length
    ·rw[if_pos yz] at p4
     have z7:rs.length=64:=an
     rw[<-p4];simp[z7,nA,kG,Po.cs,RL,-aaa]
    ·rw[if_neg yz] at p4
     have Wz:((rs.length:Int)==64)=false:=by simp;omega
     simp[Wz,jl,D8,dT,e3,-aaa];refine⟨(q+1,0,rs++[x],none),?_,⟨by simp only;omega,aa4 _,by simp;omega,?_⟩,?_,?_⟩
     ·simp only;omega
     ·simp only;rw[M];rw[M] at p4;exact p4
     ·simp[aq]
     ·simp[ai,aw.cl,aX,V.cl,Tk.cl,X]
  by_cases JR:f=[100,101,102,97,117,108,116]/\B=none
  ·obtain⟨p,rfl⟩:=JR;simp only[abz] at X;simp only[sV,W,if_false] at p4
   have E:ui w=none:=by
    cases h:ui w with
    | none=>rfl
    | some v=>have:=zqc h;rw[a] at this;rw[show fJ (f::ws) []=f from rfl,p] at this;cases this
   rw[E] at p4;simp only at p4;have c:=GH (G:=G) Q (Z (dY f ws) (ba ws) false) an;obtain⟨A,hA⟩:∃ A,A=fJ ws []:=⟨_,rfl⟩;have lA:=Ct ws;rw[<-hA] at c lA;rw[Y,Bool.false_or] at c;have pA:=zlb (G:=G) A an;have m1:=WA (G:=G) (Z (dY (fJ ws f) (aW ws)) (ba (aW ws)) (ba ws)) (if d_ A=none then 2 else 0);rw[Cu,Y] at m1
   have xA:(f==[100,101,102,97,117,108,116])=true:=by simpa using p
   have WB:(f==[111,110])=false:=by rw[p];rfl
   have cQ:ba ws=false->(d_ A).isNone=false->ba (aW ws)=true->∃ v,d_ A=some v/\nC w=some v:=by
    intro a1 a2 a3;obtain⟨v,R⟩:=Option.isSome_iff_exists.1 (by rw[<-Option.not_isNone,a2];rfl);refine⟨v,R,zvI (z8 R).1 ?_⟩;rw[a,GK,(z8 R).2,p]
    cases ws with
    | nil=>simp[ba] at a1
    | cons y r =>
     have:r=[]:=of_decide_eq_true a3;rw[this,hA];rfl
   have C:ba ws=true\/(d_ A).isNone=true\/ba (aW ws)=false->nC w=none:=by
    intro h
    cases hd:nC w with
    | none=>rfl
    | some v =>
     obtain⟨d1,d2⟩:=Qc hd;rw[a,GK] at d2
     injection d2 with _ d2
     rw[<-d2] at h hA
     have:d_ A=some v:=by rw[hA];exact D_ d1
     rw[this] at h;simp[ba,aW] at h
   simp only[z] at q1 c m1;simp only[jk] at pA;generalize dY (fJ ws f) (aW ws)=s1 at *;simp[g,u,N,O,P,-aaa];refine cC q1 ?_;simp[xA,WB,-aaa];refine cC c ?_;simp[-aaa];refine ax pA ?_;simp[-aaa];refine cC m1 ?_
   cases a1:ba ws<;>cases a2:(d_ A).isNone<;>cases a3:ba (aW ws)
   rotate_left
   ·obtain⟨v,R,hd⟩:=cQ a1 a2 a3;rw[hd] at p4;simp only at p4;simp[R,e3,-aaa];refine⟨(q+1,0,rs,some v),?_,⟨by simp only;omega,aa4 _,p3,?_⟩,?_,?_⟩
    ·simp only;omega
    ·simp only;rw[M];rw[M] at p4;exact p4
    ·simp[aq]
    ·simp[ai,aw.cl,aX,V.cl,Tk.cl]
   all_goals
    rw[C (by rw[a1,a2,a3];simp)] at p4;simp only at p4;rw[GI p4.symm,P5];simp[-aaa]
  ·have hp:T=(kG,o,2):=by
    rw[<-p4]
    cases B with
    | some v=>simp only[sV,W,if_false]
    | none =>
     simp only[sV,W,if_false]
     have E:ui w=none:=by
      cases h:ui w with
      | none=>rfl
      | some v=>have:=zqc h;rw[a] at this;exact absurd ⟨this,rfl⟩ Wy
     have hd:nC w=none:=by
      cases h:nC w with
      | none=>rfl
      | some v=>have:=zr3 h;rw[a] at this;exact absurd ⟨this,rfl⟩ JR
     rw[E,hd]
   rw[GI hp,P5];simp only[z] at q1
   cases B with
   | some v =>
    simp[g,u,N,O,P,-aaa];refine cC q1 ?_
    cases J:(f==[111,110])<;>cases F:(f==[100,101,102,97,117,108,116])<;>simp[J,F,-aaa]
   | none =>
    have J:(f==[111,110])=false:=by simpa using fun h=>Wy ⟨h,rfl⟩
    have F:(f==[100,101,102,97,117,108,116])=false:=by simpa using fun h=>JR ⟨h,rfl⟩
    simp[g,u,N,O,P,-aaa];refine cC q1 ?_;simp[J,F,-aaa]
 ·rw[if_neg an] at p4
  have hh:o+w.length=S.length:=an
  simp only[sV,if_true] at p4
  by_cases I:w=[]
  ·rw[if_pos I] at p4
   have ho:o=S.length:=by rw[<-hh,I];simp
   subst ho
   cases B with
   | none =>
    simp only at p4;rw[<-p4]
    simp[g,I,nA,kG,Po.cs,RL]
   | some v =>
    simp only at p4;rw[<-p4];simp[g,I,nA,Po.cs]
  ·rw[if_neg I] at p4;have C9:((o:Int)<(S.length:Int))=True:=eq_true (by have:=aaL.2 I;omega);rw[<-p4];simp[g,C9,nA,kG,Po.cs,RL]
def WD[bD G](c:List af)(x:af)(h:c.length<4096):FP G 407 [FL c,FL [x]] (.bc [FL (x::c),.int .i64 (c.length+1:Nat),.int .i64 0]):=by
 refine bF bD.aee (aab rfl) ?_
 have a:aD .i64 (c.length:Int) 1=((c.length+1:Nat):Int):=by rw[dW]<;>omega
 have e:(4096<((c.length+1:Nat):Int))=False:=eq_false an;have f:((1+c.length)*32<=140737488355328)=True:=eq_true an;have b:IL [x]=[x.cs]:=rfl;have g:∀ c,x.cs::IL c=IL (x::c):=fun _=>rfl
 by_cases d:c=[]
 ·subst d;have a:aD .i64 (0:Int) 1=1:=rfl;simp[FL,a,b]
 ·have i:(IL c=[])=False:=eq_false (by simpa[NR] using d);simp[FL,a,e,f,i,b,g,-aaa]
def WE[bD G](c:List af)(t:Nat):FP G 408 [FL c,.int .i64 t] (.bool (decide (1<=t/\t<=c.length))):=by
 refine bF bD.aef (aab rfl) ?_
 by_cases b:1<=t
 ·have a:(1<=(t:Int))=True:=eq_true an
  have d:((t:Int)<=(c.length:Int))=(t<=c.length):=by simp
  simp[FL,a,d,b]
 ·have a:(1<=(t:Int))=False:=eq_false an;simp[FL,a,b]
def zD5[aB G][bD G](c:List af)(op:Int)(k:Nat)(e:GL op k)(h:c.length<4096):FP G 409 [FL c,IV ⟨op,0,0,k⟩] (.bc [FL (bS c op k),.int .i64 (bS c op k).length,.int .i64 0]):=by refine bF bD.aeg (aab rfl) ?_;obtain⟨f,j,g,i⟩:=zrP e;have a:=JD (G:=G) ⟨op,0,0,k⟩;have b:=yg (G:=G) ⟨op,0,0,k⟩;have d:=WD (G:=G) c ⟨op,0,0,k⟩ h;rw[f] at a;rw[g] at b;simp only[IV,af.cs,FL,IL,aaS,aa8] at a b d;simp[FL,IV,af.cs];refine ax a ?_;simp[aM i];refine ax b ?_;simp;refine ax d ?_;simp[bS,IL,af.cs]
def zCC[bD G](c:List af)(t:Nat)(g:1<=t/\t<c.length)(h:c.length<4096):FP G 410 [FL c,.int .i64 t] (.bc [FL (⟨5,0,0,c.length-t⟩::c),.int .i64 (c.length+1:Nat),.int .i64 0]):=by
 refine bF bD.aeh (aab rfl) ?_;have a:=WE (G:=G) c t;rw[decide_eq_true (show 1<=t/\t<=c.length by omega)] at a;have b:=WD (G:=G) c ⟨5,0,0,c.length-t⟩ h;simp only[af.cs,FL,IL,aaS,aa8] at a b;have i:((t:Int)=(c.length:Int))=False:=eq_false an
 have d:((t:Int)==(c.length:Int))=false:=by simp;omega
 have e:cM .i64 (c.length:Int) (t:Int)=((c.length-t:Nat):Int):=by rw[oB]<;>omega
 have f:fB .u32 ((c.length-t:Nat):Int)=((c.length-t:Nat):Int):=IntWalk.u32_in _ ⟨an,an⟩;simp[FL,IL];refine ax a ?_;simp[d,e,f];refine ax b ?_;simp[af.cs]
def zrw[bD G](c:List af)(t:Nat)(e:1<=t/\t<=c.length)(h:c.length<4096):FP G 411 [FL c,.int .i64 t] (.bc [FL (cf c t),.int .i64 (iw c t),.int .i64 0]):=by
 refine bF bD.aei (aab rfl) ?_
 have b:cM .i64 (c.length:Int) (t:Int)=((c.length-t:Nat):Int):=by rw[oB]<;>omega
 by_cases d:c.length-t<=254
 ·have a:(((c.length-t:Nat):Int)<=254)=True:=eq_true an;simp[FL,b,a,cf,iw,d]
 ·have a:(((c.length-t:Nat):Int)<=254)=False:=eq_false an;have w:=zCC (G:=G) c t an h;simp only[FL] at w;simp[FL,b,a,cf,iw,d];refine ax w ?_;simp
def zwp[aB G][bD G](c:List af)(op:Int)(k t f:Nat)(l:sg op)(a:1<=t/\t<=c.length)(m:1<=f/\f<=c.length)(h:c.length+3<=4096) :
  FP G 412 [FL c,.int .i64 op,.int .u32 k,.int .i64 t,.int .i64 f] (.bc [FL (gr c op k t f),.int .i64 (gr c op k t f).length,.int .i64 0]):=by
 refine bF bD.aej (aab rfl) ?_
 have w:br op=true:=by rcases l with rfl|rfl|rfl<;>decide
 have b:=yg (G:=G) ⟨op,0,0,k⟩;have d:=JD (G:=G) ⟨op,0,0,k⟩
 have x:jw ⟨op,0,0,k⟩=true:=by
  have e:∀ op:Int,sg op->(qu op).map (fun r=>(r.2.2.1,r.2.2.2))=some (true,true):=by rintro op (rfl|rfl|rfl)<;>decide
  have n:=e op l;rw[aaM] at n;obtain⟨r,y,g⟩:=n;simp only[abJ.injEq] at g;simp[jw,y,g.1,g.2]
 rw[w] at b;rw[x] at d;have z:=Cv c t;have A:=Cv (cf c t) f;have D:=Qd a;have p1:=z.len;have o:1<=f/\f<=(cf c t).length:=⟨m.1,an⟩;have E:=Qd o;have p2:=A.len;have i:=WE (G:=G) c t;have j:=WE (G:=G) c f;rw[decide_eq_true a] at i;rw[decide_eq_true m] at j;have p:=zrw (G:=G) c t a an;have q:=zrw (G:=G) (cf c t) f o an;have s:=WD (G:=G) (cf (cf c t) f) ⟨op,((cf (cf c t) f).length-iw c t:Nat),((cf (cf c t) f).length-iw (cf c t) f:Nat),k⟩ an
 unfold gr;generalize F:cf (cf c t) f=c2 at *;generalize cf c t=c1 at *;generalize iw c t=u at *;generalize iw c1 f=v at *
 have B:cM .i64 (c2.length:Int) (u:Int)=((c2.length-u:Nat):Int):=by rw[oB]<;>omega
 have C:cM .i64 (c2.length:Int) (v:Int)=((c2.length-v:Nat):Int):=by rw[oB]<;>omega
 simp only[IV,af.cs,FL,IL,aaS,aa8] at b d i j p q s;simp[FL,IL];refine ax b ?_;simp;refine ax d ?_;simp;refine ax i ?_;simp;refine ax j ?_;simp;refine ax p ?_;simp;refine ax q ?_;simp[B,C];refine ax s ?_;simp[af.cs]
def zya[eh G](a:Int)(h:0<=a/\a<=5):FP G 413 [.int .i64 a] (.int .u32 ((16+8*a.toNat:Nat):Int)):=by
 have:a=0\/a=1\/a=2\/a=3\/a=4\/a=5:=an
 rcases this with rfl|rfl|rfl|rfl|rfl|rfl<;>(refine bF eh.vl (aab rfl) ?_)<;>simp<;>decide
def zCD[eh G](a:Int)(h:0<=a/\a<=5):FP G 414 [.int .i64 a] (.int .u32 ((20+8*a.toNat:Nat):Int)):=by
 refine bF eh.aek (aab rfl) ?_;have w:=zya (G:=G) a h
 have:a=0\/a=1\/a=2\/a=3\/a=4\/a=5:=an
 rcases this with rfl|rfl|rfl|rfl|rfl|rfl<;>simp<;>refine ax w ?_<;>simp<;>decide
def mC(c:List af)(tk:Tk):aw:=.cells [.vs (IL c) tk,.int .i64 0]
structure lO (H:ae) (b:Nat) (c:List af) (tk:Tk):Prop where
 hb:H[b]?=some (some (mC c tk))
 eA:tk=.no\/tk=.full
 shut:fY H
def dk(H:ae)(b:Nat)(c:List af):ae:=H.set b (some (mC c .no))
@[simp] theorem qg (H:ae) (b:Nat) (c:List af):(dk H b c).length=H.length:=by simp[dk]
section
variable {H:ae} {b:Nat} {c c':List af} {tk:Tk}
def lO.lb(h:lO H b c tk):b<H.length:=(aae.1 h.hb).1
def wK(h:fY H)(c':List af):fY (dk H b c'):=by intro n a;simp only[qg] at a;have c:=h n a;unfold dk;rw[Bo,c];simp[mC,aw.cl,aX,V.cl,Tk.cl]
def lO.set(h:lO H b c tk)(c':List af):lO (dk H b c') b c' .no:=⟨by rw[dk,aaE h.lb],.inl rfl,wK h.shut c'⟩
def A6(c c':List af):dk (dk H b c) b c'=dk H b c':=by simp[dk]
def Ea{i:Nat}(h:i≠b)(c':List af):(dk H b c')[i]?=H[i]?:=by rw[dk,aas (Ne.symm h)]
def Mb(h:b<H.length)(c':List af)(R:ae):dk (H++R) b c'=dk H b c'++R:=by rw[dk,dk,aa9 _ _ h]
def fY.WG(h:fY H){R:ae}(b:∀ m,H.length+R.length<=m->R.map (aaC (aw.cl m))=R):fY (H++R):=by intro m a;rw[aaw] at a;rw[aan,h m an,b m a]
def lO.app(h:lO H b c tk){R:ae}(a:∀ m,H.length+R.length<=m->R.map (aaC (aw.cl m))=R):lO (H++R) b c tk :=
 ⟨by rw[aav h.lb];exact h.hb,h.eA,h.shut.WG a⟩
def lO.cE(h:lO H b c tk):H[b]?=some (some (.cells [.vs (IL c) tk,.int .i64 0])):=h.hb
def lO.ne(h:lO H b c tk){i:Nat}{v:V}(hi:H[i]?=some (some (.cells [v]))):i≠b:=by intro e;rw[e,h.hb] at hi;simp[mC] at hi
def zvj[ei G](h:lO H b c tk)(c':List af)(l:Nat):SF G 415 [.ptr b 0,FL c',.int .i64 l,.int .i64 0] H (.int .i64 l) (dk H b c'):=by
 refine jx ei.ael (aab rfl) ?_;have d:=h.cE;have e:=h.lb;have a:=(wK (b:=b) h.shut c').self;rw[qg] at a;simp only[dk,mC] at a;have f:∀ x:Option aw,(H.set b x)[b]?=some x:=fun x=>aaE e;simp[d,FL,f,dk,mC,a]
 done
def I1[aB G][bD G][ei G](h:lO H b c tk)(op:Int)(k:Nat)(f:GL op k)(g:c.length<4096):SF G 416 [.ptr b 0,.int .i64 op,.int .u32 k] H (.int .i64 (bS c op k).length) (dk H b (bS c op k)):=by refine jx ei.aem (aab rfl) ?_;have a:=zD5 (G:=G) c op k f g;have d:=zvj (G:=G) h (bS c op k) (bS c op k).length;have e:=(wK (b:=b) h.shut (bS c op k)).self;rw[qg] at e;have i:=h.cE;simp only[FL,IV,af.cs] at a d;simp[i];refine ax a ?_;simp;refine cC d ?_;simp[e]
def GM[aB G][bD G][ei G](h:lO H b c tk)(op:Int)(k t f:Nat)(g:sg op)(i:1<=t/\t<=c.length)(j:1<=f/\f<=c.length)(l:c.length+3<=4096) :
  SF G 417 [.ptr b 0,.int .i64 op,.int .u32 k,.int .i64 t,.int .i64 f] H (.int .i64 (gr c op k t f).length) (dk H b (gr c op k t f)):=by
 refine jx ei.aen (aab rfl) ?_;have a:=zwp (G:=G) c op k t f g i j l;have d:=zvj (G:=G) h (gr c op k t f) (gr c op k t f).length;have e:=(wK (b:=b) h.shut (gr c op k t f)).self;rw[qg] at e;have m:=h.cE;simp only[FL] at a d;simp[m];refine ax a ?_;simp;refine cC d ?_;simp[e]
def zvk[aB G][bD G][ei G]{H1:ae}{c:List af}{g:Nat}{cap:List V}{r:V}(at_ a:Nat)(j:SF G g cap H r H1)(e:lO H1 b c .no)(d:H1.length=H.length)
  (k:GL 32 at_) (p:c.length+1<4096):SF G 418 [.ptr b 0,.int .u32 at_,.int .u32 a,.fn g cap] H (.bc []) (dk H1 b (bS (bS c 84 a) 32 at_)):=by
 refine jx ei.aeo (aab rfl) ?_;have l:=I1 (G:=G) e 84 a (.inl rfl) an;have f:=I1 (G:=G) (e.set (bS c 84 a)) 32 at_ k (by simp[bS];omega);rw[A6] at f;have i:=(wK (b:=b) e.shut (bS (bS c 84 a) 32 at_)).self;rw[qg,d] at i;obtain⟨q,H2,m,n,o⟩:=j;simp;refine jL (H1:=H2) (by simpa using m) (fun h=>by simp at h) ?_;rw[n,o];simp;refine cC l ?_;simp;refine cC f ?_
 simp[i]
def sh(n:Int):Option (Option aw):=some (some (.cells [.int .i64 n]))
def Mc(n:Int):Option (Option aw):=some (some (.cells [.int .u32 n]))
def zyb[aB G][bD G][ei G](h:lO H b c tk){pm po a pt d:Nat}(op:Int)(k t f:Nat)(m:H[pm]?=some (some (.cells [.ptr b 0])))(e:H[po]?=sh op)(g:H[a]?=Mc k)(i:H[pt]?=sh t)(j:H[d]?=sh f)
  (n:sg op) (o:1<=t/\t<=c.length) (p:1<=f/\f<=c.length) (q:c.length+3<=4096) :
  SF G 419 [.ptr pm 0,.ptr po 0,.ptr a 0,.ptr pt 0,.ptr d 0] H (.int .i64 (gr c op k t f).length) (dk H b (gr c op k t f)):=by
 refine jx ei.aep (aab rfl) ?_;have w:=GM (G:=G) h op k t f n o p q;have l:=(wK (b:=b) h.shut (gr c op k t f)).self;rw[qg] at l;simp only[sh,Mc] at e g i j;simp[m,e,g,i,j];refine cC w ?_;simp[l]
def GN(c:List af)(op:Int)(k t f a:Nat):List af:=if op=21 then gr c 21 k a f else gr (gr c 37 k t f) 21 k a (gr c 37 k t f).length
def z9(H:ae)(c:List af)(op:Int)(k t f a:Nat):ae:=if op=21 then H else H.set a (sh ((gr c 37 k t f).length:Nat)).get!
def zyc[aB G][bD G][ei G](h:lO H b c tk){pm po l pt a m:Nat}(op:Int)(k t f d:Nat)(p:H[pm]?=some (some (.cells [.ptr b 0])))(q:H[po]?=sh op)(o:H[l]?=Mc k)(r:H[pt]?=sh t)(i:H[a]?=sh f)(s:H[m]?=sh d)
  (u:pm≠a/\l≠a/\m≠a) (F:1<=t/\t<=c.length) (A:1<=f/\f<=c.length) (B:1<=d/\d<=c.length) (U:c.length+6<=4096) :
  SF G 420 [.ptr po 0,.ptr pm 0,.ptr l 0,.ptr pt 0,.ptr a 0,.ptr m 0] H (.int .i64 (GN c op k t f d).length) (dk (z9 H c op k t f a) b (GN c op k t f d)):=by
 refine jx ei.aeq (aab rfl) ?_;have nm:=h.ne p;have W:=h.ne (by simpa[sh] using q);have I:=h.ne (by simpa[Mc] using o);have X:=h.ne (by simpa[sh] using r);have v:=h.ne (by simpa[sh] using i);have J:=h.ne (by simpa[sh] using s)
 have y:a<H.length:=by simp only[sh] at i;exact(aae.1 i).1
 simp only[sh,Mc] at q o r i s
 by_cases e:op=21
 ·subst e;have w:=GM (G:=G) h 21 k d f (.inl rfl) B A an;have j:=(wK (b:=b) h.shut (gr c 21 k d f)).self;rw[qg] at j;simp[p,q,o,r,i,s];refine cC w ?_;simp[j,GN,z9]
 ·have K:=GM (G:=G) h 37 k t f (.inr (.inl rfl)) F A an;have g:=(Cw c 37 k t f).len;have Y:=zpY c 37 k t f;simp only[GN,z9,if_neg e,sh,Option.get!_some];generalize Z:gr c 37 k t f=c1 at *
  have C:fY ((dk H b c1).set a (some (.cells [.int .i64 (c1.length:Nat)]))):=by intro n D;rw[aaR] at D;rw[Bo,wK h.shut c1 n D];simp[aw.cl,aX,V.cl]
  have L:lO ((dk H b c1).set a (some (.cells [.int .i64 (c1.length:Nat)]))) b c1 .no:=⟨by rw[aas v];exact(h.set c1).hb,.inl rfl,C⟩;have E:=GM (G:=G) L 21 k d c1.length (.inl rfl) ⟨B.1,an⟩ an an;have j:=(wK (b:=b) C (gr c1 21 k d c1.length)).self;rw[qg,aaR,qg] at j;have e':(op !=21)=true:=jM e
  have M:(dk H b c1)[pm]?=some (some (.cells [.ptr b 0])):=by rw[Ea nm];exact p
  have N:(dk H b c1)[l]?=some (some (.cells [.int .u32 k])):=by rw[Ea I];exact o
  have O:(dk H b c1)[a]?=some (some (.cells [.int .i64 f])):=by rw[Ea v];exact i
  have P:(dk H b c1)[m]?=some (some (.cells [.int .i64 d])):=by rw[Ea J];exact s
  have Q:∀ x,((dk H b c1).set a x)[pm]?=some (some (.cells [.ptr b 0])):=fun x=>by rw[aas u.1.symm];exact M
  have R:∀ x,((dk H b c1).set a x)[l]?=some (some (.cells [.int .u32 k])):=fun x=>by rw[aas u.2.1.symm];exact N
  have S:∀ x,((dk H b c1).set a x)[m]?=some (some (.cells [.int .i64 d])):=fun x=>by rw[aas u.2.2.symm];exact P
  have T:∀ x:Option aw,((dk H b c1).set a x)[a]?=some x:=fun x=>aaE (by rw[qg];exact y)
  have z:dk ((dk H b c1).set a (some (.cells [.int .i64 (c1.length:Nat)]))) b (gr c1 21 k d c1.length)=dk (H.set a (some (.cells [.int .i64 (c1.length:Nat)]))) b (gr c1 21 k d c1.length):=by
   unfold dk;rw[List.set_comm _ _ (Ne.symm v)];simp
   done
  rw[z] at j E;simp[p,q,o,r,i,e,e'];refine cC K ?_;simp[O,Q,R,S,T];refine cC E ?_;simp[j]
def tR(b:Nat)(y:Cd)(t f:Nat):ae:=[some (.cells [.ptr b 0]),some (.cells y.cs),some (.cells [.int .i64 t]),some (.cells [.int .i64 f]),some (.cells [.int .u32 (lo y.val:Nat)]),some (.cells [.int .u32 (hi y.val:Nat)]),some (.cells [.int .i64 (qh y.cmp)])]
def zBn{b m:Nat}(y:Cd)(t f:Nat)(a:b<m):(tR b y t f).map (aaC (aw.cl m))=tR b y t f:=by simp[tR,aw.cl,aX,V.cl,Cd.cs,a]
def zAg[aB G][bD G][ei G](h:lO H b c tk)(y:Cd)(t f:Nat)(d:y.right=true)(e:1<=t/\t<=c.length)(j:1<=f/\f<=c.length)(k:c.length+13<=4096) :
  SF G 418 [.ptr b 0,.int .u32 (16+8*y.arg.toNat:Nat),.int .u32 (lo y.mask:Nat),.fn 419 [.ptr H.length 0,.ptr (H.length+6) 0,.ptr (H.length+4) 0,.ptr (H.length+2) 0,.ptr (H.length+3) 0]] (H++tR b y t f) (.bc []) (dk H b (bW c y t f)++tR b y t f):=by
 have a:=h.app (R:=tR b y t f) (fun m l=>zBn y t f (by have:=h.lb;omega))
 have g:∀ i,(H++tR b y t f)[H.length+i]?=(tR b y t f)[i]?:=fun i=>by rw[aal an];congr 1;omega
 have w:=zyb (G:=G) a (qh y.cmp) (lo y.val) t f (g 0) (g 6) (g 4) (g 2) (g 3) (zBv _) e j an;have:=(Cw c (qh y.cmp) (lo y.val) t f).len;have p:=zvk (G:=G) (b:=b) (16+8*y.arg.toNat) (lo y.mask) w (a.set _) ir (Qe d 16 (.inl rfl)) an;rw[A6,Mb h.lb] at p;exact p
def zAh[aB G][bD G][ei G](h:lO H b c tk)(y:Cd)(t f:Nat)(j:y.right=true)(k:1<=t/\t<=c.length)(l:1<=f/\f<=c.length)(x:c.length+13<=4096) :
  ∃ R,SF G 418 [.ptr b 0,.int .u32 (20+8*y.arg.toNat:Nat),.int .u32 (hi y.mask:Nat),.fn 420 [.ptr (H.length+6) 0,.ptr H.length 0,.ptr (H.length+5) 0,.ptr (H.length+2) 0,.ptr (H.length+3) 0,.ptr (H.length+7) 0]]
   (dk H b (bW c y t f)++(tR b y t f++[some (.cells [.int .i64 (bW c y t f).length])])) (.bc []) (dk H b (GO c y t f)++some (.cells [.ptr b 0])::R):=by
 have z:=(Qf c y t f).len;have o:=h.set (bW c y t f)
 have a:=o.app (R:=tR b y t f++[some (.cells [.int .i64 (bW c y t f).length])]) (fun m q=>by
  have:=h.lb;simp only[qg] at q;rw[aan,zBn y t f an]
  simp[aw.cl,aX,V.cl])
 have g:∀ i,(dk H b (bW c y t f)++(tR b y t f++[some (.cells [.int .i64 (bW c y t f).length])]))[H.length+i]?=(tR b y t f++[some (.cells [.int .i64 (bW c y t f).length])])[i]?:=fun i=>by
  rw[aal ir,qg];congr 1;omega
 have w:=zyc (G:=G) a (qh y.cmp) (hi y.val) t f (bW c y t f).length (g 0) (g 6) (g 5) (g 2) (g 3) (g 7) ⟨an,an,an⟩ ⟨k.1,an⟩ ⟨l.1,an⟩ an an
 have d:GN (bW c y t f) (qh y.cmp) (hi y.val) t f (bW c y t f).length=gr (sY c y t f) 21 (hi y.val) (bW c y t f).length (if qh y.cmp=21 then f else(sY c y t f).length):=by
  unfold GN sY
  split<;>rfl
 have r:fY (z9 (dk H b (bW c y t f)++(tR b y t f++[some (.cells [.int .i64 (bW c y t f).length])])) (bW c y t f) (qh y.cmp) (hi y.val) t f (H.length+3)):=by
  unfold z9;split
  ·exact a.shut
  ·intro n e;rw[aaR] at e;rw[Bo,a.shut n e];simp[sh,aw.cl,aX,V.cl]
 have A:=(Qg c y t f).len;have B:=(Cw (sY c y t f) 21 (hi y.val) (bW c y t f).length (if qh y.cmp=21 then f else(sY c y t f).length)).len
 have s:b<(z9 (dk H b (bW c y t f)++(tR b y t f++[some (.cells [.int .i64 (bW c y t f).length])])) (bW c y t f) (qh y.cmp) (hi y.val) t f (H.length+3)).length:=by
  have:=h.lb;unfold z9
  split<;>simp<;>omega
 have u:lO (dk (z9 (dk H b (bW c y t f)++(tR b y t f++[some (.cells [.int .i64 (bW c y t f).length])])) (bW c y t f) (qh y.cmp) (hi y.val) t f (H.length+3)) b (GN (bW c y t f) (qh y.cmp) (hi y.val) t f (bW c y t f).length)) b _ .no :=
  ⟨by rw[dk,aaE s],.inl rfl,wK r _⟩
 have p:=zvk (G:=G) (b:=b) (20+8*y.arg.toNat) (hi y.mask) w u (by unfold z9;split<;>simp) (Qe j 20 (.inr rfl)) (by rw[d];omega);rw[A6,d] at p
 obtain⟨R,v⟩:∃ R,z9 (dk H b (bW c y t f)++(tR b y t f++[some (.cells [.int .i64 (bW c y t f).length])])) (bW c y t f) (qh y.cmp) (hi y.val) t f (H.length+3)=dk H b (bW c y t f)++some (.cells [.ptr b 0])::R:=by
  unfold z9;split
  ·exact⟨_,rfl⟩
  ·rw[aaB _ _ ir,qg,show H.length+3-H.length=3 by omega];exact⟨_,rfl⟩
 rw[v,Mb (by simpa using h.lb),A6] at p;exact⟨R,p⟩
def zAi[aB G][bD G][ei G][dO G][cU G][eh G](h:lO H b c tk)(x:Cd)(t f:Nat)(l:x.right=true)(s:x.ok)(S:1<=t/\t<=c.length)(T:1<=f/\f<=c.length)(u:c.length+13<=4096) :
  SF G 421 [.ptr b 0,.agg x.cs,.int .i64 t,.int .i64 f] H (.int .i64 (fS c x t f).length) (dk H b (fS c x t f)):=by
 refine jx ei.aer (aab rfl) ?_;have I:=l;simp only[Cd.right,decide_eq_true_eq] at I;have p:=zEf (G:=G) x;rw[Cx,if_pos l] at p
 obtain⟨y,m⟩:∃ y,y=if I3 x then({ x with cmp:=Cy x.cmp }:Cd) else x:=⟨_,rfl⟩
 obtain⟨d,n⟩:∃ d,d=if I3 x then f else t:=⟨_,rfl⟩
 obtain⟨e,o⟩:∃ e,e=if I3 x then t else f:=⟨_,rfl⟩
 have a:x.cmp=0\/x.cmp=1\/x.cmp=2\/x.cmp=3\/x.cmp=4\/x.cmp=5:=an
 have v:fB .u32 (x.val:Int)=((lo x.val:Nat):Int):=rfl;have w:fB .u32 (x.mask:Int)=((lo x.mask:Nat):Int):=rfl;have z:=VG x.val s.2;have A:fB .u32 ((x.val/4294967296:Nat):Int)=((hi x.val:Nat):Int):=rfl;have B:=VG x.mask s.1;have C:fB .u32 ((x.mask/4294967296:Nat):Int)=((hi x.mask:Nat):Int):=rfl;have J:=zya (G:=G) x.arg ⟨an,an⟩;have K:=zCD (G:=G) x.arg ⟨an,an⟩;have g:(H.length+7<=H.length)=False:=eq_false an
 have i:(H.length+8<=H.length)=False:=eq_false an;have D:(H.length+7<=H.length+1)=False:=eq_false an;have E:(H.length+8<=H.length+1)=False:=eq_false an
 have F:∀(c':List af) (r:ae) (k:Nat),(dk H b c'++r)[H.length+k]?=r[k]?:=fun c' r k=>by rw[aal ir,qg];congr 1;omega
 have L:∀(c':List af) (r:ae),(dk H b c'++r)[H.length]?=r[0]?:=fun c' r=>F c' r 0
 have M:∀(c':List af) (r:ae),(dk H b c'++r)[b]?=some (some (.cells [.vs (IL c') .no,.int .i64 0])):=fun c' r=>by rw[aav (by simpa using h.lb)];exact(h.set c').hb
 have N:∀(c':List af) (r:ae) (k:Nat) (x:Option aw),(dk H b c'++r).set (H.length+k) x=dk H b c'++r.set k x:=fun c' r k x=>by rw[aaB _ _ ir,qg];congr 1;congr 1;omega
 have q:∀(r:ae),(H++r)[b]?=some (some (.cells [.vs (IL c) tk,.int .i64 0])):=fun r=>by rw[aav h.lb];exact h.hb
 have O:∀(c':List af) (r:ae),ai H.length (dk H b c'++r)=dk H b c':=fun c' r=>by have:=(wK (b:=b) h.shut c').back r;rwa[qg] at this
 have U:=h.lb;have tb:∀ k:Nat,(b<H.length+k)=True:=fun k=>eq_true an
 have P:fS c x t f=GO c y d e:=by rw[fS,m,n,o];split<;>rfl
 have j:y.right=true:=by rw[m];split;exact WH l;exact l
 have p1:=zAg (G:=G) h y d e j (by rw[n];split<;>assumption) (by rw[o];split<;>assumption) u;obtain⟨R,p2⟩:=zAh (G:=G) h y d e j (by rw[n];split<;>assumption) (by rw[o];split<;>assumption) u;rw[<-P] at p2
 rcases a with a|a|a|a|a|a
 all_goals
  have Q:qh y.cmp=if x.cmp=0\/x.cmp=1 then 21 else if x.cmp=2\/x.cmp=5 then 53 else 37:=by rw[m];simp[I3,a,qh,Cy]
  simp only[tR,Cd.cs,Q] at p1 p2;rw[m,n,o] at p1 p2;simp[I3,a,Cy,-Int.ofNat_toNat,-aaa,-aaz] at p1 p2;simp only[Cd.cs,a] at p;generalize bW c _ _ _=c1 at p1 p2;generalize fS c x t f=c2 at p2 |-;simp[Cd.cs,a,v,w,z,A,B,C,abo,g,i,D,E,-aaV]
  repeat
   (first|refine ax p ?_|refine ax J ?_|refine cC p1 ?_|refine ax K ?_|refine cC p2 ?_)
   simp[v,w,z,A,B,C,abo,g,i,D,E,F,L,M,N,q,Cy,-aaV,-aaa,-aaz]
  exact O _ _
end
open Go Go.RowKit
variable {G:aN}
section
variable {H:ae} {b:Nat} {c:List af}
def zpB(h:lO H b c .no):dk H b c=H:=Bp h.hb
def WI{α:Type}{l:List α}{t:Nat}{y:α}(h:l[t]?=some y):l.drop t=y::l.drop (t+1):=by obtain⟨a,b⟩:=aae.1 h;rw[aaI a,b]
def WJ:∀(l:List Ru) (t:Nat),sZ (l.drop t)<=sZ l
 | [],t=>by simp[sZ]
 | r::l,0=>aaA _
 | r::l,t+1=>by
  have:=WJ l t;simp only[List.drop_succ_cons,sZ];omega
def zrx:∀ l:List Ru,l.length<=sZ l
 | []=>aaA _
 | r::l=>by have:=zrx l;simp only[aa5,sZ];omega
def zyd[aB G][bD G][ei G][dO G][cU G][eh G][eP G](h:lO H b c .no)(l:List Ru)(tk:Tk)(eA:∀ n,H.length<=n->tk.cl n=tk)(o:Nat)(E:∀ r∈l,r.cZ)(V:1<=o/\o<=c.length)(hc:c.length+sZ l<=4096) :
  SF G 427 [.ptr b 0,.vs (RL l) tk,.int .i64 o] H (.int .i64 (qQ l (c,o)).2) (dk H b (qQ l (c,o)).1):=by
 refine jx eP.aeA (aab rfl) ?_;have W:=zrx l
 have w:∀ c',ai H.length (dk H b c')=dk H b c':=fun c'=>by have:=(wK (b:=b) h.shut c').self;rwa[qg] at this
 have A:=h.lb;have i:=eA H.length (aaA _);obtain⟨S,d⟩:∃ S:Nat->si,∀ k,S k=qQ (l.drop (l.length-k)) (c,o):=⟨_,fun _=>rfl⟩
 have Cz:S 0=(c,o):=by rw[d,abO,abA];rfl
 have yy:S l.length=qQ l (c,o):=by rw[d,aa1,abK]
 have s0:cM .i64 (l.length:Int) 1=(l.length:Int)-1:=oB an an;have dq:=zpB h
 have Ec:∀ k,Came c (S k) (sZ l):=fun k=>by
  rw[d];exact(Qi (s:=(c,o)) (fun r F=>E r (aam F)) V).mono (WJ _ _)
 simp[s0];refine aP l.length (fun k=>[(0,.ptr b 0),(1,.vs (RL l) tk),(2,.int .i64 (S k).2),(7,.int .i64 ((l.length:Int)-1-k))]) (fun k=>dk H b (S k).1) (fun _=>True) ?_ ?_
 ·simp[aq,Cz,dq,A,i,h.shut.self]
 intro k hk _
 by_cases ar:k<l.length
 ·obtain⟨t,ht⟩:∃ t,t=l.length-1-k:=⟨_,rfl⟩
  have I:t<l.length:=an
  obtain⟨y,hy⟩:∃ y,y=l[t]:=⟨_,rfl⟩
  have B:l[t]?=some y:=by rw[aac I,hy]
  have e:=WK B
  have Mi:(RL l)[t]'(by simpa using I)=y.cs:=by rw[aac (by simpa using I)] at e;exact aaN.inj e
  have m:=E y (aaf B)
  have p:S (k+1)=zBw y (S k):=by rw[d,d,show l.length-(k+1)=t by omega,WI B,qQ,show t+1=l.length-k by omega]
  have et:(l.length:Int)-1-k=(t:Int):=an
  have J:(l.length:Int)-1-((k+1:Nat):Int)=(t:Int)-1:=an
  have s1:cM .i64 (t:Int) 1=(t:Int)-1:=oB an an
  have X:(S k).1.length+(1+13*y.conds.length)<=4096:=by
   have a:=Qi (l:=l.drop (l.length-k)) (s:=(c,o)) (fun r F=>E r (aam F)) V;have Y:=a.grown.len;rw[<-d] at Y
   have Z:sZ (l.drop t)=1+13*y.conds.length+sZ (l.drop (l.length-k)):=by rw[WI B,sZ,show t+1=l.length-k by omega]
   have:=WJ l t;simp only at Y;omega
  have f:=Ec k;obtain⟨⟨a,g⟩,qo⟩:∃ s,s=S k:=⟨_,rfl⟩;rw[<-qo] at p X f |-;simp only at X f;have Ik:=h.set a;have K:=I1 (G:=G) Ik 6 y.act (.inr (.inl rfl)) an;rw[A6] at K;have ma:(bS a 6 y.act).length=a.length+1:=rfl;rw[ma] at K;rw[et]
  have yQ:tk.cl (dk H b a).length=tk:=by rw[qg];exact i
  simp only[Ru.cs] at e Mi;simp(disch:=omega)[e];refine cC K ?_;have s2:cM .i64 (y.conds.length:Int) 1=(y.conds.length:Int)-1:=oB an an;simp(disch:=omega)[e,s2];obtain⟨T,q⟩:∃ T:Nat->si,∀ k,T k=Ee g (y.conds.drop (y.conds.length-k)) (bS a 6 y.act,a.length+1):=⟨_,fun _=>rfl⟩
  have uG:T 0=(bS a 6 y.act,a.length+1):=by rw[q,abO,abA];rfl
  have k_:T y.conds.length=S (k+1):=by rw[q,aa1,abK,p];rfl
  refine aP y.conds.length (fun j=>[(0,.ptr b 0),(1,.vs (RL l) tk),(2,.int .i64 g),(7,.int .i64 t),(8,.int .i64 (T j).2),(9,.int .i64 ((y.conds.length:Int)-1-j))]) (fun j=>dk H b (T j).1) (fun _=>True) ?_ ?_
  ·simp[aq,uG,w,A,i]
  intro j hj _
  by_cases zJ:j<y.conds.length
  ·obtain⟨u,hu⟩:∃ u,u=y.conds.length-1-j:=⟨_,rfl⟩
   have L:u<y.conds.length:=an
   obtain⟨z,hz⟩:∃ z,z=y.conds[u]:=⟨_,rfl⟩
   have M:y.conds[u]?=some z:=by rw[aac L,hz]
   have C:=WM M
   have Mj:(CL y.conds)[u]'(by simpa using L)=z.cs:=by rw[aac (by simpa using L)] at C;exact aaN.inj C
   have v:=m.1 z (aaf M)
   have N:T (j+1)=(fS (T j).1 z (T j).2 g,(fS (T j).1 z (T j).2 g).length):=by rw[q,q,show y.conds.length-(j+1)=u by omega,WI M,Ee,show u+1=y.conds.length-j by omega]
   have D:=WN (o:=g) (l:=y.conds.drop (y.conds.length-j)) (s:=(bS a 6 y.act,a.length+1)) (fun x hx=>m.1 x (aam hx)) ⟨f.lP.1,by have:=f.lP.2;simp only[bS,aa5] at this |-;omega⟩ ⟨an,aaA _⟩;rw[<-q] at D;have O:=D.grown.len;simp only[ma,aax] at O;obtain⟨⟨Z,o2⟩,s9⟩:∃ s,s=T j:=⟨_,rfl⟩;rw[<-s9] at N D O |-;simp only at O N;have cl:=D.lP;simp only at cl;have P:=f.lP.2;simp only at P
   have Q:=zAi (G:=G) (h.set Z) z o2 g v.1 v.2 cl ⟨f.lP.1,an⟩ an;rw[A6] at Q
   have eu:(y.conds.length:Int)-1-j=(u:Int):=an
   have R:(y.conds.length:Int)-1-((j+1:Nat):Int)=(u:Int)-1:=an
   have s3:cM .i64 (u:Int) 1=(u:Int)-1:=oB an an;rw[eu];simp only[Cd.cs] at Q C Mj;simp(disch:=omega)[e,C];refine cC Q ?_;simp(disch:=omega)[aq,w,A,i,s3,R,N,zJ,-aaa]
  ·have:j=y.conds.length:=an
   subst this;have U:((y.conds.length:Int)<=(y.conds.length:Int)-1)=False:=eq_false an;simp(disch:=omega)[aq,w,A,i,s1,J,k_,U,ar,-aaa]
 ·have:k=l.length:=an
  subst this;have U:((l.length:Int)<=(l.length:Int)-1)=False:=eq_false an;simp(disch:=omega)[w,yy,U]
def EL(l:List (Nat×Nat)):List (List V):=l.map fun e=>[.int .u32 (e.1:Int),.int .i64 (e.2:Int)]
@[simp] theorem zIQ (l:List (Nat×Nat)):(EL l).length=l.length:=by simp[EL]
theorem zye{l:List (Nat×Nat)}{i:Nat}{x:Nat×Nat}(h:l[i]?=some x):(EL l)[i]?=some [.int .u32 (x.1:Int),.int .i64 (x.2:Int)]:=by simp[EL,h]
def zvl(l:List (Nat×Nat))(n:Nat):(EL l).take n=EL (l.take n):=by simp[EL]
def zCE(l:List (Nat×Nat))(n:Nat):(EL l).drop n=EL (l.drop n):=by simp[EL]
def Qj(l:List (Nat×Nat)):(∀ f∈EL l,f.length=2)=True:=by simp only[eq_iff_iff,iff_true];intro f a;simp only[EL,aag] at a;obtain⟨x,_,rfl⟩:=a;rfl
def WQ[aB G][bD G][ei G][eP G]{o:Nat}:∀(n:Nat) {H:ae} {b:Nat} {c:List af} (h:lO H b c .no) (l:List (Nat×Nat)) (tk:Tk) (d:∀ n,H.length<=n->tk.cl n=tk) (r:l≠[]) (z:l.length<=n) (i:nD c l) (s:∀ e∈l,e.1<4294967296) (f:1<=o/\o<=c.length) (u:c.length+6*l.length<=4096),
  SF G 426 [.ptr b 0,.vs (EL l) tk,.int .i64 o] H (.int .i64 (bO n c l o).2) (dk H b (bO n c l o).1)
 | 0,H,b,c,h,l,tk,d,r,z,i,s,f,u=>absurd (aaK.1 an) r
 | n+1,H,b,c,h,l,tk,d,r,z,i,s,f,u=>by
  have W:0<l.length:=aaL.2 r
  have A:∀ c',ai H.length (dk H b c')=dk H b c':=fun c'=>by have:=(wK (b:=b) h.shut c').self;rwa[qg] at this
  have X:=h.lb;have Y:=d H.length (aaA _);refine jx eP.aeB (aab rfl) ?_
  by_cases B:l.length=1
  ·obtain⟨e,rfl⟩:=List.length_eq_one_iff.1 B
   have v:bO (n+1) c [e] o=(gr c 21 e.1 e.2 o,(gr c 21 e.1 e.2 o).length):=by unfold bO;rfl
   rw[v];have w:=GM (G:=G) h 21 e.1 e.2 o (.inl rfl) (i e ir) f (by simp at u;omega);simp[EL];refine cC w ?_;simp[A]
  ·have N:((l.length:Int)==1)=false:=by simp;omega
   obtain⟨a,j⟩:∃ a,a=l.length/2:=⟨_,rfl⟩
   have q1:lY .i64 (l.length:Int) 2=(a:Int):=by unfold lY;have O:((l.length:Int).tdiv 2)=((l.length/2:Nat):Int):=rfl;rw[O,<-j];exact IntWalk.i64_in _ ⟨an,an⟩
   have C:(l.take a).length=a:=by rw[aaj];omega
   have D:(l.drop a).length=l.length-a:=by rw[aax]
   have n1:l.take a≠[]:=by intro e;rw[e] at C;simp at C;omega
   have E:l.drop a≠[]:=by intro e;rw[e] at D;simp at D;omega
   have m:nD c (l.take a):=fun e g=>i e (aai g);have p:nD c (l.drop a):=fun e g=>i e (aam g);have F:∀ e∈l.take a,e.1<4294967296:=fun e g=>s e (aai g);have I:∀ e∈l.drop a,e.1<4294967296:=fun e g=>s e (aam g);have t:=I4 n (c:=c) (l:=l.take a) n1 an m F f;have Z:=t.grown.len;have J:=I4 n (c:=(bO n c (l.take a) o).1) (l:=l.drop a) E an (p.grown t.grown) I ⟨f.1,an⟩
   have g2:=J.grown.len;have Q:=t.lP;have R:=J.lP;obtain⟨k,S⟩:∃ k,k=l[a]'(by omega):=⟨_,rfl⟩
   have K:l[a]?=some k:=by rw[aac an,S]
   have T:l.getD a (0,0)=k:=by rw[List.getD,K];rfl
   have x:=zye K
   have U:(EL l)[a]'(by simp;omega)=[.int .u32 (k.1:Int),.int .i64 (k.2:Int)]:=by rw[aac (by simp;omega)] at x;exact aaN.inj x
   have V:=fun tk d=>WQ (o:=o) n h (l.take a) tk d n1 an m F f an;have L:=fun tk d=>WQ (o:=o) n (h.set (bO n c (l.take a) o).1) (l.drop a) tk (by rw[qg];exact d) E an (p.grown t.grown) I ⟨f.1,an⟩ an
   have v:bO (n+1) c l o=(gr (bO n (bO n c (l.take a) o).1 (l.drop a) o).1 53 k.1 (bO n (bO n c (l.take a) o).1 (l.drop a) o).2 (bO n c (l.take a) o).2,
    (gr (bO n (bO n c (l.take a) o).1 (l.drop a) o).1 53 k.1 (bO n (bO n c (l.take a) o).1 (l.drop a) o).2 (bO n c (l.take a) o).2).length):=by
    conv=>lhs;unfold bO
    rw[if_neg B,<-j,T]
   rw[v];generalize bO n (bO n c (l.take a) o).1 (l.drop a) o=s2 at *;generalize bO n c (l.take a) o=s1 at *;have w:=GM (G:=G) ((h.set s1.1).set s2.1) 53 k.1 s2.2 s1.2 (.inr (.inr rfl)) R ⟨Q.1,an⟩ an;simp only[A6] at L w;have M:(a<=l.length)=True:=eq_true an;have b2:((0:Int)<=(a:Int))=True:=eq_true an;have gC:(EL l).take l.length=EL l:=aaq ir
   have q:∀(P:Prop) [Decidable P] n,(if P then Tk.full else Tk.no).cl n=if P then Tk.full else Tk.no:=fun P _ n=>by split<;>rfl
   have y:(l.drop a).take (l.length-a)=l.drop a:=aaq an;simp(disch:=omega)[N,q1,Qj,zvl,M];refine cC (V _ (fun n _=>q _ n)) ?_;simp(disch:=omega)[Qj,zvl,zCE,M,y];refine cC (L _ (fun n _=>q _ n)) ?_;simp(disch:=omega)[x];refine cC w ?_;simp[A]
end
open Go Go.RowKit
variable {G:aN}
def zCF(k:IntKind)(l:List Nat):(aj k l=[])=(l=[]):=by simp[aj]
def zyf[eP G](n:Nat)(H:ae):bp G (.F 424 [.int .u32 n] H (.int .u32 n) H):=by refine eB eP.aet (aab rfl) ?_;simp
def zwq(l:List Nat)(x:Nat):o8 (l++[x])=vD x (o8 l):=by simp[o8,abw]
def Ml(l:List Nat):(o8 l).length=l.length:=(Mn l).length_eq
def qA(x:Nat)(l:List Nat):Nat:=(l.takeWhile fun y=>decide (y<=x)).length
def zpC(x:Nat)(l:List Nat):l.take (qA x l)=l.takeWhile (fun y=>decide (y<=x)):=by
 have h:=aaX (p:=fun y=>decide (y<=x)) (l:=l);unfold qA
 conv=>lhs;arg 2;rw[<-h]
 exact List.take_left' rfl
def zwr(x:Nat)(l:List Nat):l.drop (qA x l)=l.dropWhile (fun y=>decide (y<=x)):=by
 have h:=aaX (p:=fun y=>decide (y<=x)) (l:=l);unfold qA
 conv=>lhs;arg 2;rw[<-h]
 exact List.drop_left' rfl
def zvm(x:Nat)(l:List Nat):vD x l=l.take (qA x l)++x::l.drop (qA x l):=by rw[zpC,zwr];rfl
def zAj(x:Nat)(l:List Nat):qA x l<=l.length:=by have:=congrArg aby (aaX (p:=fun y=>decide (y<=x)) (l:=l));rw[aaw] at this;unfold qA;omega
def zAk{x:Nat}{l:List Nat}{j y:Nat}(h:j<qA x l)(a:l[j]?=some y):y<=x:=by refine zvB x (l:=l) y ?_;rw[<-zpC];exact aaf (i:=j) (by rw[aa2,if_pos h];exact a)
def zry{x:Nat}:∀{l:List Nat} {y:Nat},l[qA x l]?=some y->¬y<=x
 | [],y,h=>by simp at h
 | b::l,y,h=>by
  by_cases a:b<=x
  ·have e:qA x (b::l)=qA x l+1:=by simp[qA,a]
   rw[e,List.getElem?_cons_succ] at h;exact zry h
  ·have e:qA x (b::l)=0:=by simp[qA,a]
   rw[e] at h;simp at h;omega
def zws[eP G]{H:ae}(a:fY H)(l:List Nat)(tk:Tk)(T:∀ n,H.length<=n->tk.cl n=tk)(U:l≠[])(hl:l.length<=1000000) :
  SF G 423 [.vs (aj .u32 l) tk,.fn 424 []] H (.vs (aj .u32 (o8 l)) .no) H:=by
 refine jx eP.aes (aab rfl) ?_;have ht:=LB a;have J:=a.back;have d:=T H.length (aaA _);obtain⟨S,e⟩:∃ S:Nat->List Nat,∀ k,S k=o8 (l.take k):=⟨_,fun _=>rfl⟩
 obtain⟨b,i⟩:∃ b:Nat->Tk,∀ k,b k=if k=0 then .full else .no:=⟨_,fun _=>rfl⟩
 have W:S 0=[]:=by rw[e];rfl
 have X:S l.length=o8 l:=by rw[e,aau]
 have Y:∀ k,k<=l.length->(S k).length=k:=fun k K=>by rw[e,Ml,aaj];omega
 simp;refine aP l.length (fun k=>[(1,.fn 424 []),(5,.vs (aj .u32 (S k)) (b k)),(9,.vs (aj .u32 l) tk),(10,.int .i64 l.length),(11,.int .i64 k)]) (fun _=>H) (fun _=>True) ?_ ?_
 ·simp[aq,W,i,d,a.self]
 intro k K _;have lh:0<l.length:=aaL.2 U
 have m:∀(r:ae) (k:Nat),(H++r)[H.length+k]?=r[k]?:=fun r k=>by rw[aal an];congr 1;omega
 have Z:∀(r:ae),(H++r)[H.length]?=r[0]?:=fun r=>m r 0;have M:(H.length+1<H.length)=False:=eq_false an
 by_cases f:k<l.length
 ·obtain⟨x,hx⟩:∃ x,x=l[k]:=⟨_,rfl⟩
  have N:l[k]?=some x:=by rw[aac f,hx]
  have o:(aj .u32 l)[k]?=some [.int .u32 (x:Int)]:=by simp[N]
  have we:(aj .u32 l)[k]'(by simpa using f)=[.int .u32 (x:Int)]:=by rw[aac (by simpa using f)] at o;exact aaN.inj o
  have c:S (k+1)=vD x (S k):=by rw[e,e,aao,N];exact zwq _ _
  have p:=Y k K
  have s:∀ k n,(b k).cl n=b k:=fun k n=>by rw[i];split<;>rfl
  have O:b (k+1)=.no:=by rw[i,if_neg an]
  obtain⟨L,hL⟩:∃ L,L=S k:=⟨_,rfl⟩;obtain⟨q,P⟩:∃ q,q=b k:=⟨_,rfl⟩
  have g:∀ n,q.cl n=q:=fun n=>by rw[P];exact s k n
  rw[<-hL] at c p |-;rw[<-P];have ha:=zAj x L;simp(disch:=omega)[bC,o];refine aP (qA x L) (fun j=>[(1,.fn 424 []),(5,.vs (aj .u32 L) q),(7,.int .u32 x),(8,.int .i64 j),(9,.vs (aj .u32 l) tk),(10,.int .i64 l.length),(11,.int .i64 k)]) (fun _=>H) (fun _=>True) ?_ ?_
  ·simp[aq,d,a.self,g]
  intro j hj _
  by_cases t:j<L.length
  ·obtain⟨y,hy⟩:∃ y,y=L[j]:=⟨_,rfl⟩
   have u:L[j]?=some y:=by rw[aac t,hy]
   have v:(aj .u32 L)[j]?=some [.int .u32 (y:Int)]:=by simp[u]
   have hb:(aj .u32 L)[j]'(by simpa using t)=[.int .u32 (y:Int)]:=by rw[aac (by simpa using t)] at v;exact aaN.inj v
   have w:((j:Int)<(L.length:Int))=True:=eq_true an;simp(disch:=omega)[w,v];refine jL (zyf y H) (fun h=>by simp at h) ?_;simp[a.self];refine jL (zyf x H) (fun h=>by simp at h) ?_
   by_cases Q:y<=x
   ·have z:j<qA x L:=by
     rcases abP j (qA x L) with h|h
     ·exact h
     ·have:j=qA x L:=an
      subst this;exact absurd Q (zry u)
    have A:((y:Int)<=(x:Int))=True:=eq_true an;simp(disch:=omega)[a.self,A,aq,d,g,bE,z,-aaa]
   ·have z:j=qA x L:=by
     rcases abP j (qA x L) with h|h
     ·exact absurd (zAk h u) Q
     ·omega
    have A:((y:Int)<=(x:Int))=False:=eq_false an;have B:(j<=L.length)=True:=eq_true an;have C:(aj .u32 (L.drop j)=[])=False:=eq_false (by rw[zCF,abn];omega);have I6:(L.drop j).length=L.length-j:=aax
    have D:(L.take j).length=j:=by rw[aaj];omega
    have xU:((1+(L.length-j))*4<=140737488355328)=True:=eq_true an;have E:((j+(L.length-j+1))*4<=140737488355328)=True:=eq_true an;have F:(L.drop j).take (L.length-j)=L.drop j:=aaq an
    have I:S (k+1)=L.take j++x::L.drop j:=by rw[c,zvm,<-z]
    have Gs:(aj .u32 (x::L.drop j)=[])=False:=eq_false (by simp[aj]);have Mo:[V.int .u32 (x:Int)]::aj .u32 (L.drop j)=aj .u32 (x::L.drop j):=rfl;simp(disch:=omega)[a.self,A,aq,d,B,AT,xI,F,C,I6,D,xU,E,Gs,Mo,zuk,m,Z,J,I,O,bE,f,M,-aaa]
  ·have ic:j=L.length:=an
   have w:((j:Int)<(L.length:Int))=False:=eq_false an;have B:(j<=L.length)=True:=eq_true an;have R:L.drop j=[]:=abn.2 an
   have D:(L.take j).length=j:=by rw[aaj];omega
   have E:((j+1)*4<=140737488355328)=True:=eq_true an
   have I:S (k+1)=L.take j++[x]:=by rw[c,zvm,show qA x L=j by omega,R]
   simp(disch:=omega)[w,aq,d,B,AT,xI,R,D,E,m,J,I,O,bE,f,M,-aaa]
 ·have:k=l.length:=an
  subst this
  have e0:b l.length=.no:=by rw[i,if_neg an]
  simp(disch:=omega)[X,e0,a.self]
def zpD(R:Nat->List Ru)(o:Nat)(n:Nat):∀(l:List Nat) (c:List af),cD R o (l++[n]) c=((qQ (R n) ((cD R o l c).1,o)).1,(cD R o l c).2++[(n,(qQ (R n) ((cD R o l c).1,o)).2)])
 | [],c=>rfl
 | m::l,c=>by
  have a:=zpD R o n l (qQ (R m) (c,o)).1;simp only[aaU,cD,a]
def WZ(g:Nat->Nat):∀(l:List Nat) (k:Nat) (x:Nat),l[k]?=some x->eo g (l.take k)+g x<=eo g l
 | [],k,x,h=>by simp at h
 | y::l,0,x,h=>by simp at h;subst h;simp[eo]
 | y::l,k+1,x,h=>by
  have:=WZ g l k x (by simpa using h);simp only[List.take_succ_cons,eo];omega
def zvn(l:List (Nat×Nat))(x:Nat×Nat):EL l++[[.int .u32 (x.1:Int),.int .i64 (x.2:Int)]]=EL (l++[x]):=by simp[EL]
def zyg(es:List (V×V))(a:Nat)(l:List Nat)(n:Nat):Prop:=∃ i tk,js (.sc .int) (.int .u32 (a:Int)) es 0=some (some (i,.vs (aj .u32 l) tk))/\∀ m,n<=m->tk.cl m=tk
def zyh(es:List (V×V))(a k:Nat)(l:List Ru)(n:Nat):Prop:=∃ i tk,js (.row [.int,.int]) (.agg [.int .u32 (a:Int),.int .u32 (k:Int)]) es 0=some (some (i,.vs (RL l) tk))/\∀ m,n<=m->tk.cl m=tk
section
variable {H:ae} {b:Nat} {c:List af} {rs:List Ru}
def zyi[aB G][bD G][ei G][dO G][cU G][eh G][eP G](h:lO H b c .no){a o pn pm po px mn mo:Nat}{t N:List (V×V)}(u:H[pn]?=some (some (.cells [.mp mn])))(f:H[pm]?=some (some (.cells [.ptr b 0])))
  (O:H[po]?=some (some (.cells [.mp mo]))) (B:H[px]?=sh o) (Cc:H[mn]?=some (some (.map t))) (C:H[mo]?=some (some (.map N))) (P:zyg t a (gu rs a) H.length) (hO:∀ n∈gu rs a,zyh N a n (ia rs a n) H.length)
  (i:∀ r∈rs,r.cZ) (ha:a∈e_ rs) (hl:rs.length<=100) (D:1<=o/\o<=c.length) (hc:c.length+CC rs a<=4096) :
  SF G 425 [.int .u32 a,.ptr pn 0,.ptr pm 0,.ptr po 0,.ptr px 0] H (.int .i64 (vE rs o a c).length) (dk H b (vE rs o a c)):=by
 refine jx eP.aeu (aab rfl) ?_;have Q:=h.lb;have E:=Ql ha
 have kr:(gu rs a).length<=100:=by
  have h1:=Mp ((rs.filter fun r=>decide (r.aG=a)).map (·.nr)) []
  have h2:=aa6 (fun r=>decide (r.aG=a)) rs;simp only[aa_,aa7,abh] at h1;have:(gu rs a).length<=(rs.filter fun r=>decide (r.aG=a)).length:=h1;omega
 obtain⟨iN,T,P,U⟩:=P;simp only[sh] at B;have wS:=zws (G:=G) h.shut (gu rs a) T U E an;simp[u,Cc,P];refine cC wS ?_;have v:=Ml (gu rs a);have F:∀ n∈o8 (gu rs a),n∈gu rs a:=fun n u=>zrQ.1 u;obtain⟨d,p⟩:∃ d,d=o8 (gu rs a):=⟨_,rfl⟩;have Ec:=zrR (o:=o) i ha D
 have n_:A7 (ia rs a) d+6*d.length<=CC rs a:=by rw[p,v];exact aaA _
 obtain⟨I,i2,W⟩:=Mq (o:=o) (R:=ia rs a) (l:=d) (c:=c) (fun _ _=>Mr i) D;have J:=W3 W;rw[<-p] at v F |-;obtain⟨S,q⟩:∃ S:Nat->List af×List (Nat×Nat),∀ k,S k=cD (ia rs a) o (d.take k) c:=⟨_,fun _=>rfl⟩
 have Cz:S 0=(c,[]):=by rw[q];rfl
 have yy:S d.length=cD (ia rs a) o d c:=by rw[q,aau]
 have WX:∀ k,k<=d.length->(S k).2.length=k:=fun k hk=>by
  obtain⟨_,_,h3⟩:=Mq (o:=o) (R:=ia rs a) (l:=d.take k) (c:=c) (fun _ _=>Mr i) D;rw[q,W3 h3,aaj];omega
 have dq:=zpB h;have W4:EL []=[]:=rfl;have hX:∀(c':List af) (n m:Nat),H.length+1<=m->[some (aw.zone n)].map (aaC (aw.cl m))=[some (aw.zone n)]:=fun _ _ _ _=>rfl;have X:∀(c':List af) (n:Nat),lO (dk H b c'++[some (.zone n)]) b c' .no:=fun c' n=>(h.set c').app (fun m f=>rfl)
 have g:∀(c':List af) (n:Nat),(dk H b c'++[some (aw.zone n)]).length=H.length+1:=fun c' n=>by simp
 have eR:∀(c':List af) (n:Nat),ai (H.length+1) (dk H b c'++[some (.zone n)])=dk H b c'++[some (.zone n)]:=fun c' n=>by have:=(X c' n).shut.self;rwa[g] at this
 have Gq:∀(c':List af) (n:Nat) (r:ae),ai (H.length+1) (dk H b c'++some (.zone n)::r)=dk H b c'++[some (.zone n)]:=fun c' n r=>by
  have:=(X c' n).shut.back r;rw[g,aaJ] at this;exact this
 have Y:=h.ne f;have Z:=h.ne O;have hh:=h.ne B
 have hj:mo≠b:=by intro e;rw[e,h.hb] at C;simp[mC] at C
 have hq:pm<H.length:=(aae.1 f).1;have hr:po<H.length:=(aae.1 O).1;have hs:px<H.length:=(aae.1 B).1;have ht:mo<H.length:=(aae.1 C).1;have w:(pm<H.length+1)=True:=eq_true an;have y:(po<H.length+1)=True:=eq_true an;have z:(px<H.length+1)=True:=eq_true an;have hu:(H.length+1<=pm)=False:=eq_false an;have hv:(H.length+1<=po)=False:=eq_false an;have hw:(H.length+1<=px)=False:=eq_false an
 have W5:∀(c':List af) (r:ae),(dk H b c'++r)[pm]?=some (some (.cells [.ptr b 0])):=fun c' r=>by rw[aav (by simpa using hq),Ea Y];exact f
 have hy:∀(c':List af) (r:ae),(dk H b c'++r)[po]?=some (some (.cells [.mp mo])):=fun c' r=>by rw[aav (by simpa using hr),Ea Z];exact O
 have A:∀(c':List af) (r:ae),(dk H b c'++r)[px]?=some (some (.cells [.int .i64 o])):=fun c' r=>by rw[aav (by simpa using hs),Ea hh];exact B
 have hz:∀(c':List af) (r:ae),(dk H b c'++r)[mo]?=some (some (.map N)):=fun c' r=>by rw[aav (by simpa using ht),Ea hj];exact C
 have gk:∀(c':List af) (r:ae) (k:Nat),(dk H b c'++r)[H.length+k]?=r[k]?:=fun c' r k=>by rw[aal ir,qg];congr 1;omega
 have xR:∀(c':List af) (r:ae),(dk H b c'++r)[H.length]?=r[0]?:=fun c' r=>gk c' r 0
 have z_:∀(c':List af) (r:ae) (x:Option aw),(dk H b c'++r).set H.length x=dk H b c'++r.set 0 x:=fun c' r x=>by rw[aaB _ _ ir,qg,aa1]
 have W6:ai (H.length+1) (H++[some (.zone 0)])=H++[some (.zone 0)]:=by have:=eR c 0;rwa[dq] at this
 have de:∀(c':List af) (r:ae),ai H.length (dk H b c'++r)=dk H b c':=fun c' r=>by have:=(wK (b:=b) h.shut c').back r;rwa[qg] at this
 simp;refine aP d.length (fun k=>[(0,.int .u32 a),(2,.ptr pm 0),(3,.ptr po 0),(4,.ptr px 0),(7,.vs (EL (S k).2) (.own H.length)),(13,.vs (aj .u32 d) .no),(14,.int .i64 d.length),(15,.int .i64 k)]) (fun k=>dk H b (S k).1++[some (.zone k)]) (fun _=>True) ?_ ?_
 ·simp[aq,Cz,dq,W4,w,y,z,W6]
 intro k hk _
 by_cases K:k<d.length
 ·obtain⟨x,uD⟩:∃ x,x=d[k]:=⟨_,rfl⟩
  have L:d[k]?=some x:=by rw[aac K,uD]
  have xT:(aj .u32 d)[k]?=some [.int .u32 (x:Int)]:=by simp[L]
  have we:(aj .u32 d)[k]'(by simpa using K)=[.int .u32 (x:Int)]:=by rw[aac (by simpa using K)] at xT;exact aaN.inj xT
  have j:S (k+1)=((qQ (ia rs a x) ((S k).1,o)).1,(S k).2++[(x,(qQ (ia rs a x) ((S k).1,o)).2)]):=by rw[q,q,aao,L];exact zpD _ _ _ _ _
  obtain⟨M,_,_⟩:=Mq (o:=o) (R:=ia rs a) (l:=d.take k) (c:=c) (fun _ _=>Mr i) D;rw[<-q] at M;have vF:=WX k hk;have W7:=WZ (fun n=>sZ (ia rs a n)) d k x L;obtain⟨iO,hB,hC,hD⟩:=hO x (F x (aaf L));obtain⟨⟨c1,W8⟩,qo⟩:∃ s,s=S k:=⟨_,rfl⟩;rw[<-qo] at j M vF |-;have gj:=M.grown.len;have lj:=M.lP;simp only[A7] at j gj lj vF n_;have wr:=zyd (G:=G) ((h.set c1).app (R:=[some (.zone k),none]) (fun m f=>rfl)) (ia rs a x) hB (fun m f=>hD m (by simp at f;omega)) o (Mr i) lj an
  rw[Mb (by simpa using Q),A6] at wr
  have GC:bZ [.int,.int] [.int .u32 (a:Int),.int .u32 (x:Int)] [.int .u32 (a:Int),.int .u32 (x:Int)]=some true:=by simp[bZ,oV]
  simp(disch:=omega)[bC,xT];simp[W5,hy,A,hz,hC,hu,hv,hw];refine cC wr ?_;have jl:((k+1)*16<=140737488355328)=True:=eq_true an;have dT:=zvn W8 (x,(qQ (ia rs a x) (c1,o)).2);simp only at dT;simp[Qj,z_,vF,jl,dT,j,-aaa];simp(disch:=omega)[aq,Gq,w,y,z,bE,K,-aaa]
  done
 ·have:k=d.length:=an
  subst this;rw[yy]
  have wt:=WQ (G:=G) (o:=o) (cD (ia rs a) o d c).2.length (X (cD (ia rs a) o d c).1 d.length) (cD (ia rs a) o d c).2 (.own H.length) (fun n u=>by simp at u;simp[Tk.cl];omega)
   (by intro e;rw[e] at J;simp at J;have:=Ml (gu rs a);rw[<-p] at this;exact E (aaK.1 an)) (aaA _) i2
   (fun e he=>W9 i (a:=a) (F _ (by rw[<-W];exact aag.2 ⟨e,he,rfl⟩))) I.lP (by have:=I.grown.len;simp only at this;omega)
  rw[Mb (by simpa using Q),A6] at wt
  have tl:=(I4 (o:=o) _ (by intro e;rw[e] at J;simp at J;have:=Ml (gu rs a);rw[<-p] at this;exact E (aaK.1 an)) (aaA _) i2
   (fun e he=>W9 i (a:=a) (F _ (by rw[<-W];exact aag.2 ⟨e,he,rfl⟩))) I.lP).grown.len
  have gi:=I.grown.len
  have hA:vE rs o a c=bS (bO (cD (ia rs a) o d c).2.length (cD (ia rs a) o d c).1 (cD (ia rs a) o d c).2 o).1 32 0:=by rw[p];rfl
  have lh:0<d.length:=by have:=Ml (gu rs a);rw[<-p] at this;have:=aaL.2 E;omega
  generalize bO (cD (ia rs a) o d c).2.length (cD (ia rs a) o d c).1 (cD (ia rs a) o d c).2 o=s2 at *;generalize cD (ia rs a) o d c=s1 at *;have wa:=I1 (G:=G) ((h.set s2.1).app (R:=[some (.zone d.length)]) (fun m f=>rfl)) 32 0 (.inr (.inr ⟨rfl,by decide,by decide⟩)) (by simp only at gi;omega);rw[Mb (by simpa using Q),A6,<-hA] at wa;simp(disch:=omega)[W5,A];refine cC wt ?_;simp(disch:=omega)[W5]
  refine cC wa ?_;simp[de]
  done
end
open Go Go.RowKit
variable {G:aN}
def W_(l:List Ru)(r:Ru):e_ (l++[r])=uk (e_ l) r.aG:=by simp[e_,zn7]
def Ms(l:List Ru)(r:Ru)(a:Nat):gu (l++[r]) a=if r.aG=a then uk (gu l a) r.nr else gu l a:=by
 unfold gu;rw[abq,aan]
 by_cases h:r.aG=a
 ·have e:[r].filter (fun r=>decide (r.aG=a))=[r]:=by simp[h]
  rw[e,if_pos h];simp[zn7]
 ·have e:[r].filter (fun r=>decide (r.aG=a))=[]:=by simp[h]
  rw[e,if_neg h];simp
def I7(l:List Ru)(r:Ru)(a n:Nat):ia (l++[r]) a n=if r.aG=a/\r.nr=n then ia l a n++[r] else ia l a n:=by
 unfold ia;rw[abq]
 by_cases h:r.aG=a/\r.nr=n
 ·have e:[r].filter (fun r=>decide (r.aG=a/\r.nr=n))=[r]:=by simp[h]
  rw[e,if_pos h]
 ·have e:[r].filter (fun r=>decide (r.aG=a/\r.nr=n))=[]:=by rw[List.filter_cons,if_neg (by simpa using h)];rfl
  rw[e,if_neg h];simp
def Qm{l:List Ru}{a:Nat}:a∈e_ l↔∃ r∈l,r.aG=a:=by rw[e_,GV,aag]
def Qn{l:List Ru}{a n:Nat}:n∈gu l a↔∃ r∈l,r.aG=a/\r.nr=n:=by
 rw[gu,GV,aag];constructor
 ·rintro⟨r,b,h⟩;rw[abk] at b;exact⟨r,b.1,by simpa using b.2,h⟩
 ·rintro⟨r,b,c,d⟩;exact⟨r,abk.2 ⟨b,by simpa using c⟩,d⟩
abbrev EN:=Nat×List Nat×Nat
abbrev EO:=(Nat×Nat)×List Ru×Nat
structure jG (l:List Ru) (of:List EO) (dh:List EN) (ms:List Nat) (Z:ae):Prop where
 rB:ms=e_ l
 nk:dh.map (·.1)=e_ l
 nv:∀ e∈dh,e.2.1=gu l e.1
 ok:(of.map (·.1)).Nodup
 om:∀ k,k∈of.map (·.1)↔∃ r∈l,(r.aG,r.nr)=k
 ov:∀ e∈of,e.2.1=ia l e.1.1 e.1.2
 nz:∀ e∈dh,Z[e.2.2]?=some (some (.zone e.2.1.length))
 oz:∀ e∈of,Z[e.2.2]?=some (some (.zone e.2.1.length))
 dz:(dh.map (·.2.2)++of.map (·.2.2)).Nodup
 cz:∀ n,Z.map (aaC (aw.cl n))=Z
def mD{α:Type}{l:List α}{j:Nat}{a e:α}(h:e∈l.set j a):e=a\/∃ i,i≠j/\l[i]?=some e:=by
 obtain⟨i,hi⟩:=aat h;rw[abx] at hi
 by_cases b:j=i
 ·rw[if_pos b] at hi;split at hi
  ·left;exact(aaN.inj hi).symm
  ·cases hi
 ·rw[if_neg b] at hi;exact .inr ⟨i,Ne.symm b,hi⟩
def Qo{α β:Type}(f:α->β){l:List α}{j:Nat}{a b:α}(h:l[j]?=some a)(d:f b=f a):(l.set j b).map f=l.map f:=by
 apply List.ext_getElem?;intro i;simp only[aaG,abx]
 by_cases c:j=i
 ·subst c;rw[if_pos rfl,h];have:=(aae.1 h).1;rw[if_pos this];simp[d]
 ·rw[if_neg c]
def I8{α β:Type}{f:α->β}{l:List α}{i j:Nat}{a b:α}(c:(l.map f).Nodup)(hi:l[i]?=some a)(d:l[j]?=some b)(h:i≠j):f a≠f b:=by intro e;have g:=(aae.1 hi).1;refine h ((List.getElem?_inj (l:=l.map f) (by simpa using g) c).1 ?_);rw[aaG,aaG,hi,d,abG,abG,e]
def Qp{Z r:ae}{z:Nat}{x:Option aw}(h:Z[z]?=some x):(Z++r)[z]?=some x:=by rw[aav (aae.1 h).1];exact h
def zD6{Z r:ae}(h:∀ n,Z.map (aaC (aw.cl n))=Z)(a:∀ n,r.map (aaC (aw.cl n))=r):∀ n,(Z++r).map (aaC (aw.cl n))=Z++r:=fun n=>by rw[aan,h,a]
def zyj{Z:ae}{z m:Nat}(h:∀ n,Z.map (aaC (aw.cl n))=Z):∀ n,(Z.set z (some (.zone m))).map (aaC (aw.cl n))=Z.set z (some (.zone m)):=fun n=>by rw[Bo,h];rfl
section
variable {l:List Ru} {of:List EO} {dh:List EN} {ms:List Nat} {Z R:ae} {r:Ru}
def jG.oa(h:jG l of dh ms Z){e:EO}(a:e∈of):e.2.2<Z.length:=(aae.1 (h.oz e a)).1
def jG.oe(h:jG l of dh ms Z){e:EN}(a:e∈dh):e.2.2<Z.length:=(aae.1 (h.nz e a)).1
def jG.more(h:jG l of dh ms Z)(b:∀ n,R.map (aaC (aw.cl n))=R):jG l of dh ms (Z++R) :=
 ⟨h.rB,h.nk,h.nv,h.ok,h.om,h.ov,fun e a=>Qp (h.nz e a),fun e a=>Qp (h.oz e a),h.dz,zD6 h.cz b⟩
def jG.Xa(h:jG l of dh ms Z){j z:Nat}{d:List Ru}(f:of[j]?=some ((r.aG,r.nr),d,z)):jG (l++[r]) (of.set j ((r.aG,r.nr),d++[r],z)) dh ms (Z.set z (some (.zone (d.length+1)))):=by
 have m:=aaf f;obtain⟨o,p,n⟩:=(h.om (r.aG,r.nr)).1 (aag.2 ⟨_,m,rfl⟩);simp only[abJ.injEq] at n;have u:r.aG∈e_ l:=Qm.2 ⟨o,p,n.1⟩;have v:r.nr∈gu l r.aG:=Qn.2 ⟨o,p,n⟩
 have s:e_ (l++[r])=e_ l:=by rw[W_,uk,if_pos u]
 have w:∀ a,gu (l++[r]) a=gu l a:=fun a=>by
  rw[Ms];split
  ·rename_i e;subst e;rw[uk,if_pos v]
  ·rfl
 have hd:=h.dz;rw[aaF] at hd;obtain⟨D,y,A⟩:=hd;have B:=h.oa m
 have t:(of.set j ((r.aG,r.nr),d++[r],z)).map (·.1)=of.map (·.1):=Qo (·.1) f (by rfl)
 have C:(of.set j ((r.aG,r.nr),d++[r],z)).map (·.2.2)=of.map (·.2.2):=Qo (·.2.2) f (by rfl)
 refine⟨by rw[s];exact h.rB,by rw[s];exact h.nk,fun e b=>by rw[w];exact h.nv e b,?_,fun k=>?_,fun e b=>?_,fun e b=>?_,fun e b=>?_,?_,zyj h.cz⟩
 ·rw[t];exact h.ok
 ·rw[t,h.om];constructor
  ·rintro⟨x,c,e⟩;exact⟨x,by simp[c],e⟩
  ·rintro⟨x,c,e⟩
   rcases aah.1 c with c|c
   ·exact⟨x,c,e⟩
   ·rw[aap] at c;subst c;exact⟨o,p,by rw[<-e];simp[n]⟩
 ·rcases mD b with rfl|⟨i,hi,g⟩
  ·simp only;rw[I7,if_pos ⟨rfl,rfl⟩,<-h.ov _ m]
  ·have:=I8 h.ok g f hi;rw[I7,if_neg (fun q=>this (abd q.1.symm q.2.symm))];exact h.ov e (aaf g)
 ·have:e.2.2≠z:=A _ (aag.2 ⟨e,b,rfl⟩) _ (aag.2 ⟨_,m,rfl⟩);rw[aas (Ne.symm this)];exact h.nz e b
 ·rcases mD b with rfl|⟨i,hi,g⟩
  ·simp only;rw[aaE B];simp
  ·have:=I8 y g f hi;rw[aas (Ne.symm this)];exact h.oz e (aaf g)
 ·rw[C];exact h.dz
def jG.Xb(h:jG l of dh ms Z)(o:(r.aG,r.nr)∉of.map (·.1)){j z m:Nat}{b:List Nat}(c:dh[j]?=some (r.aG,b,z))(t:Z[m]?=some (some (.zone 1)))(n:m∉dh.map (·.2.2)++of.map (·.2.2)) :
  jG (l++[r]) (of++[((r.aG,r.nr),[r],m)]) (dh.set j (r.aG,b++[r.nr],z)) ms (Z.set z (some (.zone (b.length+1)))):=by
 have d:=aaf c
 have u:r.aG∈e_ l:=by rw[<-h.nk];exact aag.2 ⟨_,d,rfl⟩
 have p:r.nr∉gu l r.aG:=fun v=>by
  obtain⟨x,a,e⟩:=Qn.1 v;exact o ((h.om _).2 ⟨x,a,abd e.1 e.2⟩)
 have w:ia l r.aG r.nr=[]:=zvE p
 have s:e_ (l++[r])=e_ l:=by rw[W_,uk,if_pos u]
 have hd:=h.dz;rw[aaF] at hd;obtain⟨A,H,B⟩:=hd;rw[aah,not_or] at n;have C:=h.oe d
 have D:(dh.set j (r.aG,b++[r.nr],z)).map (·.1)=dh.map (·.1):=Qo (·.1) c (by rfl)
 have E:(dh.set j (r.aG,b++[r.nr],z)).map (·.2.2)=dh.map (·.2.2):=Qo (·.2.2) c (by rfl)
 have F:m≠z:=fun e=>n.1 (by rw[e];exact aag.2 ⟨_,d,rfl⟩);refine⟨by rw[s];exact h.rB,by rw[D,s];exact h.nk,fun e he=>?_,?_,fun k=>?_,fun e he=>?_,fun e he=>?_,fun e he=>?_,?_,zyj h.cz⟩
 ·rcases mD he with rfl|⟨i,hi,f⟩
  ·simp only;rw[Ms,if_pos rfl,uk,if_neg p,<-h.nv _ d]
  ·have G:(dh.map (·.1)).Nodup:=by rw[h.nk];exact Mu _
   have:=I8 G f c hi;rw[Ms,if_neg (Ne.symm this)];exact h.nv e (aaf f)
 ·rw[aan,aaF];exact⟨h.ok,ir,fun x a y g e=>o (by simp at g;rw[e,g] at a;exact a)⟩
 ·rw[aan,aah,h.om];constructor
  ·rintro(⟨x,a,e⟩|a)
   ·exact⟨x,by simp[a],e⟩
   ·simp at a;exact⟨r,ir,a.symm⟩
  ·rintro⟨x,a,e⟩
   rcases aah.1 a with a|a
   ·exact .inl ⟨x,a,e⟩
   ·rw[aap] at a;subst a;exact .inr (by simp[<-e])
 ·rcases aah.1 he with he|he
  ·have:e.1≠(r.aG,r.nr):=fun q=>o (by rw[<-q];exact aag.2 ⟨e,he,rfl⟩);rw[I7,if_neg (fun q=>this (abd q.1.symm q.2.symm))];exact h.ov e he
  ·rw[aap] at he;subst he;simp only;rw[I7,if_pos ⟨rfl,rfl⟩,w];rfl
 ·rcases mD he with rfl|⟨i,hi,f⟩
  ·simp only;rw[aaE C];simp
  ·have:=I8 A f c hi;rw[aas (Ne.symm this)];exact h.nz e (aaf f)
 ·rcases aah.1 he with he|he
  ·have:z≠e.2.2:=B _ (aag.2 ⟨_,d,rfl⟩) _ (aag.2 ⟨e,he,rfl⟩);rw[aas this];exact h.oz e he
  ·rw[aap] at he;subst he;simp only;rw[aas F.symm];exact t
 ·rw[E,aan,<-aaJ,aaF]
  exact⟨h.dz,ir,fun x a y g e=>by
   simp at g;rw[e,g] at a
   rcases aah.1 a with a|a
   ·exact n.1 a
   ·exact n.2 a⟩
def jG.Xc(h:jG l of dh ms Z)(c:r.aG∉dh.map (·.1)){z d:Nat}(o:Z[z]?=some (some (.zone 1)))(p:Z[d]?=some (some (.zone 1)))(f:z∉dh.map (·.2.2)++of.map (·.2.2))(g:d∉dh.map (·.2.2)++of.map (·.2.2))(s:z≠d) :
  jG (l++[r]) (of++[((r.aG,r.nr),[r],d)]) (dh++[(r.aG,[r.nr],z)]) (ms++[r.aG]) Z:=by
 rw[h.nk] at c
 have i:(r.aG,r.nr)∉of.map (·.1):=fun t=>by
  obtain⟨x,a,e⟩:=(h.om _).1 t;exact c (Qm.2 ⟨x,a,(abJ.inj e).1⟩)
 have j:gu l r.aG=[]:=by rw[List.eq_nil_iff_forall_not_mem];intro n u;obtain⟨x,a,e⟩:=Qn.1 u;exact c (Qm.2 ⟨x,a,e.1⟩)
 have v:ia l r.aG r.nr=[]:=zvE (by rw[j];simp)
 have m:e_ (l++[r])=e_ l++[r.aG]:=by rw[W_,uk,if_neg c]
 have hd:=h.dz;rw[aaF] at hd;obtain⟨w,A,B⟩:=hd;rw[aah,not_or] at g f;refine⟨by rw[m,h.rB],by rw[aan,h.nk,m];rfl,fun e he=>?_,?_,fun k=>?_,fun e he=>?_,fun e he=>?_,fun e he=>?_,?_,h.cz⟩
 ·rcases aah.1 he with he|he
  ·have:r.aG≠e.1:=fun q=>c (by rw[q,<-h.nk];exact aag.2 ⟨e,he,rfl⟩);rw[Ms,if_neg this];exact h.nv e he
  ·rw[aap] at he;subst he;simp only;rw[Ms,if_pos rfl,j];rfl
 ·rw[aan,aaF];exact⟨h.ok,ir,fun x a y b e=>i (by simp at b;rw[e,b] at a;exact a)⟩
 ·rw[aan,aah,h.om];constructor
  ·rintro(⟨x,a,e⟩|a)
   ·exact⟨x,by simp[a],e⟩
   ·simp at a;exact⟨r,ir,a.symm⟩
  ·rintro⟨x,a,e⟩
   rcases aah.1 a with a|a
   ·exact .inl ⟨x,a,e⟩
   ·rw[aap] at a;subst a;exact .inr (by simp[<-e])
 ·rcases aah.1 he with he|he
  ·have:e.1≠(r.aG,r.nr):=fun q=>i (by rw[<-q];exact aag.2 ⟨e,he,rfl⟩);rw[I7,if_neg (fun q=>this (abd q.1.symm q.2.symm))];exact h.ov e he
  ·rw[aap] at he;subst he;simp only;rw[I7,if_pos ⟨rfl,rfl⟩,v];rfl
 ·rcases aah.1 he with he|he
  ·exact h.nz e he
  ·rw[aap] at he;subst he;exact o
 ·rcases aah.1 he with he|he
  ·exact h.oz e he
  ·rw[aap] at he;subst he;exact p
 ·rw[aan,aan,aaF];refine⟨?_,?_,?_⟩
  ·rw[aaF];exact⟨w,ir,fun x a y b e=>by simp at b;rw[e,b] at a;exact f.1 a⟩
  ·rw[aaF];exact⟨A,ir,fun x a y b e=>by simp at b;rw[e,b] at a;exact g.2 a⟩
  ·intro x a y b e
   rcases aah.1 a with a|a<;>rcases aah.1 b with b|b
   ·exact B x a y b e
   ·simp at b;rw[e,b] at a;exact g.1 a
   ·simp at a;rw[<-e,a] at b;exact f.2 b
   ·simp at a b;rw[a,b] at e;exact s e
end
open Go Go.RowKit
variable {G:aN}
def Xd{S:Type}(m:S->Nat)(E:S->List (Nat×V))(B:S->ae)(P:S->Prop)(l:List Nat)(k:Nat)(s:S)(a:Env)(H1:ae):Prop :=
 ∃ s' kk,m s'<m s/\P s'/\k<=kk/\kk<=H1.length/\(mX l a).cl kk=fU (E s')/\ai kk H1=B s'
def Qq{S:Type}(G:aN)(K:List Kt)(Q:Ex->Env->ae->Prop)(l:List Nat)(k:Nat)(m:S->Nat)(E:S->List (Nat×V))(B:S->ae)(P:S->Prop)(s:S)(x:Ex)(a:Env)(H1:ae):Prop :=
 match x with
 | .nx=>Xd m E B P l k s a H1
 | x=>Wr G x K a H1 Q
section
variable {K:List Kt} {Q:Ex->Env->ae->Prop} {e:Env} {H:ae} {l:List Nat} {k:Nat} {S:Type} {m:S->Nat} {E:S->List (Nat×V)} {B:S->ae} {P:S->Prop} {s:S}
@[simp] theorem Xe:Qq G K Q l k m E B P s .nx e H=Xd m E B P l k s e H:=rfl
@[simp] theorem zI8 (i:Nat):Qq G K Q l k m E B P s (.exit i) e H=Wr G (.exit i) K e H Q:=rfl
@[simp] theorem zJh:Qq G K Q l k m E B P s .ret e H=Wr G .ret K e H Q:=rfl
theorem zAl{c:aY}(m:S->Nat)(E:S->List (Nat×V))(B:S->ae)(P:S->Prop)(a:S)
  (b:P a/\(mX l e).cl H.length=fU (E a)/\ai H.length H=B a)
  (f:∀ s,P s->W G c [] (fU (E s)) (B s) (Qq G K Q l H.length m E B P s)):W G (.loop l c) K e H Q:=by
 refine zB2 (fun k e H=>∃ s,k=m s/\P s/\e=fU (E s)/\H=B s) (m a) ⟨a,rfl,b.1,b.2.1,b.2.2⟩ ?_;rintro k e' H' ⟨s,rfl,g,rfl,rfl⟩;obtain⟨x,h,H1,i,d⟩:=f s g;refine⟨x,h,H1,i,?_⟩
 cases x with
 | nx=>obtain⟨s',kk,j,n,o,p,q,r⟩:=d;exact⟨m s',kk,j,o,p,s',rfl,n,q,r⟩
 | exit id=>exact d
 | ret=>exact d
end
def vN(e:EN):V×V:=(.int .u32 (e.1:Int),.vs (aj .u32 e.2.1) (.own (e.2.2+9)))
def vO(e:EO):V×V:=(.agg [.int .u32 (e.1.1:Int),.int .u32 (e.1.2:Int)],.vs (RL e.2.1) (.own (e.2.2+9)))
def LH(p:Po)(c:List af)(of dh:List (V×V))(m:Nat)(Z:ae):ae :=
 [some (.cells p.cs),some (mC c .no),some (.cells [.ptr 1 0]),some (.cells [.int .i64 1]),some (.map of),some (.cells [.mp 4]),some (.map dh),some (.cells [.mp 6]),some (.zone m)]++Z
section
variable {p:Po} {c:List af} {of dh:List (V×V)} {m:Nat} {Z:ae}
def rC:(LH p c of dh m Z).length=Z.length+9:=by simp[LH]
def Eg(r:ae):LH p c of dh m Z++r=LH p c of dh m (Z++r):=by simp[LH]
def Mv:(LH p c of dh m Z)[1]?=some (some (.cells [.vs (IL c) .no,.int .i64 0])):=rfl
def Aa:(LH p c of dh m Z)[2]?=some (some (.cells [.ptr 1 0])):=rfl
def Mw:(LH p c of dh m Z)[3]?=some (some (.cells [.int .i64 1])):=rfl
def CE:(LH p c of dh m Z)[4]?=some (some (.map of)):=rfl
def CF:(LH p c of dh m Z)[5]?=some (some (.cells [.mp 4])):=rfl
def GY:(LH p c of dh m Z)[6]?=some (some (.map dh)):=rfl
def GZ:(LH p c of dh m Z)[7]?=some (some (.cells [.mp 6])):=rfl
def Xf:(LH p c of dh m Z)[8]?=some (some (.zone m)):=rfl
def xW(z:Nat):(LH p c of dh m Z)[z+9]?=Z[z]?:=by rw[LH,aal ir];simp
def Xg(a:List (V×V)):(LH p c of dh m Z).set 4 (some (.map a))=LH p c a dh m Z:=rfl
def zBo(a:List (V×V)):(LH p c of dh m Z).set 6 (some (.map a))=LH p c of a m Z:=rfl
def zIn(a:Nat):(LH p c of dh m Z).set 8 (some (.zone a))=LH p c of dh a Z:=rfl
def I9(z:Nat)(x:Option aw):(LH p c of dh m Z).set (z+9) x=LH p c of dh m (Z.set z x):=by rw[LH,aaB _ _ ir];simp[LH]
end
section
variable {p:Po} {c:List af} {of:List EO} {dh:List EN} {m:Nat} {Z:ae}
def Xh(n:Nat)(r:Ru):aX n r.cs=r.cs:=by rw[ie];simp[Ru.cs,V.cl,Tk.cl]
def Xi(b:∀ n,Z.map (aaC (aw.cl n))=Z)(d:∀ e∈of,e.2.2<Z.length)(f:∀ e∈dh,e.2.2<Z.length):fY (LH p c (of.map vO) (dh.map vN) m Z):=by
 intro n g;rw[rC] at g
 have h:(of.map vO).map (fun q=>(q.1.cl n,q.2.cl n))=of.map vO:=by rw[abr];refine abb fun e a=>?_;have:=d e a;simp[vO,V.cl,aX,Tk.cl,show e.2.2+9<n by omega]
 have i:(dh.map vN).map (fun q=>(q.1.cl n,q.2.cl n))=dh.map vN:=by rw[abr];refine abb fun e a=>?_;have:=f e a;simp[vN,V.cl,Tk.cl,show e.2.2+9<n by omega]
 unfold LH;rw[aan,b]
 congr 1
 simp[mC,aw.cl,Po.cs,aX,V.cl,Tk.cl,show 1<n by omega,show 4<n by omega,show 6<n by omega];exact⟨by simpa using h,by simpa using i⟩
def Xj{ks:Ky}{k:V}:∀{es:List (V×V)} (i:Nat),(∀ p∈es,jr ks k p.1=some false)->js ks k es i=some none
 | [],_,_=>rfl
 | q::es,i,h=>by
  simp only[js,h q ir];exact Xj (i+1) fun p a=>h p (by simp[a])
def Xk{ks:Ky}{k:V}:∀{es:List (V×V)} (i j:Nat) {q:V×V},es[j]?=some q->jr ks k q.1=some true->(∀ a<j,∀ p,es[a]?=some p->jr ks k p.1=some false)->js ks k es i=some (some (i+j,q.2))
 | [],_,_,_,h,_,_=>by simp at h
 | x::es,i,0,q,h,b,_=>by
  simp at h;subst h
  simp only[js,b,abt]
 | x::es,i,j+1,q,h,b,c=>by
  have d:=c 0 an x rfl;simp only[js,d];have:=Xk (i+1) j (q:=q) (by simpa using h) b (fun a f p e=>c (a+1) an p (by simpa using e));rw[this,show i+1+j=i+(j+1) by omega]
def CG(a b:Nat):jr (.sc .int) (.int .u32 (a:Int)) (.int .u32 (b:Int))=some (decide (a=b)):=by simp[jr,oV];rw[abl];simp
def CH(a n b k:Nat):jr (.row [.int,.int]) (.agg [.int .u32 (a:Int),.int .u32 (n:Int)]) (.agg [.int .u32 (b:Int),.int .u32 (k:Int)])=some (decide (a=b/\n=k)):=by simp[jr,bZ,oV];rw[abl];simp
def zAm{a:Nat}(h:a∉dh.map (·.1)):js (.sc .int) (.int .u32 (a:Int)) (dh.map vN) 0=some none:=by refine Xj 0 fun q b=>?_;obtain⟨e,c,rfl⟩:=aag.1 b;rw[vN,CG,decide_eq_false];exact fun d=>h (d▸aag.2 ⟨e,c,rfl⟩)
def zBp{j a z:Nat}{l:List Nat}(c:(dh.map (·.1)).Nodup)(h:dh[j]?=some (a,l,z)):js (.sc .int) (.int .u32 (a:Int)) (dh.map vN) 0=some (some (j,.vs (aj .u32 l) (.own (z+9)))):=by
 have:=Xk (ks:=.sc .int) (k:=.int .u32 (a:Int)) (es:=dh.map vN) 0 j (q:=vN (a,l,z)) (by simp[h]) (by rw[vN,CG];simp) (fun g i q b=>by
  rw[aaG,aaM] at b;obtain⟨e,d,rfl⟩:=b;rw[vN,CG,decide_eq_false]
  exact fun f=>I8 c d h an f.symm)
 rw[this,abh];rfl
def zAn{a n:Nat}(h:(a,n)∉of.map (·.1)):js (.row [.int,.int]) (.agg [.int .u32 (a:Int),.int .u32 (n:Int)]) (of.map vO) 0=some none:=by refine Xj 0 fun q c=>?_;obtain⟨e,d,rfl⟩:=aag.1 c;rw[vO,CH,decide_eq_false];exact fun b=>h (aag.2 ⟨e,d,abd b.1.symm b.2.symm⟩)
def zBq{j a n z:Nat}{l:List Ru}(d:(of.map (·.1)).Nodup)(h:of[j]?=some ((a,n),l,z)):js (.row [.int,.int]) (.agg [.int .u32 (a:Int),.int .u32 (n:Int)]) (of.map vO) 0=some (some (j,.vs (RL l) (.own (z+9)))):=by
 have:=Xk (ks:=.row [.int,.int]) (k:=.agg [.int .u32 (a:Int),.int .u32 (n:Int)]) (es:=of.map vO) 0 j (q:=vO ((a,n),l,z)) (by simp[h]) (by rw[vO,CH];simp) (fun g i q b=>by
  rw[aaG,aaM] at b;obtain⟨e,f,rfl⟩:=b;rw[vO,CH,decide_eq_false]
  exact fun c=>I8 d f h an (abd c.1.symm c.2.symm))
 rw[this,abh];rfl
end
open Go Go.RowKit
variable {G:aN}
def Ru.wf(r:Ru):Prop:=r.conds.length<=maxLen/\(∀ x∈r.conds,x.ok)/\r.aG<4294967296/\r.nr<4294967296/\r.act<4294967296
def Po.wf(p:Po):Prop:=p.rules.length<=maxLen/\(∀ r∈p.rules,r.wf)/\p.ew<4294967296
def zpE{p:Po}(h:p.wf)(a:xX p=true):p.cZ/\p.rules.length<=64/\∀ r∈p.rules,r.conds.length<=4:=by simp only[xX,aak,decide_eq_true_eq,aaD,ix] at a;obtain⟨⟨b,e⟩,d⟩:=a;exact⟨⟨fun r a=>⟨fun x c=>⟨(b r a).1.1 x c,(h.2.1 r a).2.1 x c⟩,(h.2.1 r a).2.2⟩,h.2.2⟩,d,fun r a=>(b r a).2⟩
def zn1(rs:List Ru)(o:Nat)(a:Nat):∀(l:List Nat) (c:List af),jQ rs o (l++[a]) c=(vE rs o a (jQ rs o l c).1,(jQ rs o l c).2++[(a,(vE rs o a (jQ rs o l c).1).length)])
 | [],c=>rfl
 | m::l,c=>by
  have b:=zn1 rs o a l (vE rs o m c);simp only[aaU,jQ,b]
def zn2(x:Nat×Nat):∀(l:List (Nat×Nat)) (s:si),dI (l++[x]) s=(gr (dI l s).1 21 x.1 x.2 (dI l s).2,(gr (dI l s).1 21 x.1 x.2 (dI l s).2).length)
 | [],s=>rfl
 | y::l,s=>by
  have a:=zn2 x l (gr s.1 21 y.1 y.2 s.2,(gr s.1 21 y.1 y.2 s.2).length);simp only[aaU,dI,a]
structure Mx where
 i:Nat
 of:List EO
 dh:List EN
 ms:List Nat
 Z:ae
def ztu[fi G][bM G][ka G][aB G][bD G][ei G][dO G][cU G][eh G][eP G](p:Po)(hp:p.wf) :
  FP G 428 [.agg p.cs] (.bc [FL (if xX p then oS p else []),.int .i64 (if xX p then 0 else 1)]):=by
 refine bF eP.aev (aab rfl) ?_;have wr:=zuz (G:=G) p hp.1 (fun r t=>⟨(hp.2.1 r t).1,(hp.2.1 r t).2.2.2.2⟩) hp.2.2;simp only[Po.cs] at wr;simp[Po.cs];refine ax wr ?_
 cases t:xX p with
 | false=>simp[FL]
 | true =>
  obtain⟨K,hl,jI⟩:=zpE hp t;have pU:lO [some (.cells p.cs),some (mC [] .full),some (.cells [.ptr 1 0]),none] 1 [] .full:=⟨rfl,.inr rfl,by intro n hn;simp at hn;simp[mC,aw.cl,Po.cs,aX,V.cl,Tk.cl,show 1<n by omega]⟩;have w0:=I1 (G:=G) pU 6 p.ew (.inr (.inl rfl)) ir;obtain⟨g,O9⟩:∃ g,g=bS [] 6 p.ew:=⟨_,rfl⟩
  have Xl:g.length=1:=by rw[O9];rfl
  rw[<-O9] at w0;rw[Xl] at w0;simp only[mC,Po.cs,zDR] at w0;simp;refine cC w0 ?_;simp[dk,mC]
  have ma:(RL p.rules).length=p.rules.length:=by simp
  refine zAl (fun s:Mx=>p.rules.length-s.i) (fun s=>[(4,.ptr 2 0),(5,.ptr 3 0),(6,.ptr 5 0),(7,.ptr 7 0),(8,.vs (aj .u32 s.ms) (.own 8)),(31,.vs (RL p.rules) .no),(32,.int .i64 p.rules.length),(33,.int .i64 s.i)])
   (fun s=>LH p g (s.of.map vO) (s.dh.map vN) s.ms.length s.Z) (fun s=>s.i<=p.rules.length/\jG (p.rules.take s.i) s.of s.dh s.ms s.Z) ⟨0,[],[],[],[]⟩ ?_ ?_
  ·refine⟨⟨aa4 _,⟨rfl,rfl,ir,ir,ir,ir,ir,ir,ir,fun _=>rfl⟩⟩,?_⟩;simp[aq,ai,LH,mC,Po.cs]
   done
  rintro⟨i,of,dh,ms,Z⟩ ⟨hi,b⟩;simp only at hi b |-;have eR:∀ r:ae,(∀ n,r.map (aaC (aw.cl n))=r)->fY (LH p g (of.map vO) (dh.map vN) ms.length (Z++r)):=fun r t=>Xi (b.more t).cz (fun e d=>(b.more t).oa d) (fun e d=>(b.more t).oe d)
  by_cases ar:i<p.rules.length
  ·obtain⟨r,K2⟩:∃ r,r=p.rules[i]:=⟨_,rfl⟩
   have hg:p.rules[i]?=some r:=by rw[aac ar,K2]
   have L:=WK hg
   have fH:(RL p.rules)[i]'(by simpa using ar)=r.cs:=by rw[aac (by simpa using ar)] at L;exact aaN.inj L
   have eA:p.rules.take (i+1)=p.rules.take i++[r]:=by rw[aao,hg];rfl
   have A:∀(R:ae) (k:Nat),(Z++R)[Z.length+k]?=R[k]?:=fun R k=>by rw[aal an];congr 1;omega
   have Q:∀(R:ae),(Z++R)[Z.length]?=R[0]?:=fun R=>A R 0
   have sk:∀(R:ae) (k:Nat) (x:Option aw),(Z++R).set (Z.length+k) x=Z++R.set k x:=fun R k x=>by rw[aaB _ _ an];congr 2;omega
   have z_:∀(R:ae) (x:Option aw),(Z++R).set Z.length x=Z++R.set 0 x:=fun R x=>sk R 0 x;simp only[Ru.cs] at L fH
   have My:∀ a n,(ia (p.rules.take i) a n).length<=64:=fun a n=>by have h1:=aa6 (fun r:Ru=>decide (r.aG=a/\r.nr=n)) (p.rules.take i);have h2:=abc i p.rules;unfold ia;omega
   have Xm:∀ l:List Ru,(∀ f∈RL l,f.length=4)=True:=fun l=>eq_true (fun f K=>by simp only[RL,aag] at K;obtain⟨x,_,rfl⟩:=K;rfl)
   have Xn:∀ l:List Ru,RL l++[[.int .u32 (r.aG:Int),.int .u32 (r.nr:Int),.vs (CL r.conds) .no,.int .u32 (r.act:Int)]]=RL (l++[r]):=fun l=>by simp[RL,Ru.cs]
   have jV:=CH r.aG r.nr r.aG r.nr;simp only[and_self,decide_true] at jV;have AQ:=CG r.aG r.aG;simp only[decide_true] at AQ
   have M:∀(G0:List EO) (vG:List EN) (U:List Nat) (D:ae) (F:Env) (H1:ae),jG (p.rules.take (i+1)) G0 vG U D->H1=LH p g (G0.map vO) (vG.map vN) U.length D ->
     (mX [4,5,6,7,8,31,32,33] F).cl (D.length+9)=fU [(4,.ptr 2 0),(5,.ptr 3 0),(6,.ptr 5 0),(7,.ptr 7 0),(8,.vs (aj .u32 U) (.own 8)),(31,.vs (RL p.rules) .no),(32,.int .i64 p.rules.length),(33,.int .i64 (i+1:Nat))] ->
     Xd (fun s:Mx=>p.rules.length-s.i) (fun s=>[(4,.ptr 2 0),(5,.ptr 3 0),(6,.ptr 5 0),(7,.ptr 7 0),(8,.vs (aj .u32 s.ms) (.own 8)),(31,.vs (RL p.rules) .no),(32,.int .i64 p.rules.length),(33,.int .i64 s.i)])
      (fun s=>LH p g (s.of.map vO) (s.dh.map vN) s.ms.length s.Z) (fun s=>s.i<=p.rules.length/\jG (p.rules.take s.i) s.of s.dh s.ms s.Z) [4,5,6,7,8,31,32,33] 9 ⟨i,of,dh,ms,Z⟩ F H1:=by
    intro G0 vG U D F H1 qY hH d;subst hH;have hs:=(Xi (p:=p) (c:=g) (m:=U.length) qY.cz (fun e d=>qY.oa d) (fun e d=>qY.oe d)).self;rw[rC] at hs;exact⟨⟨i+1,G0,vG,U,D⟩,D.length+9,by simp only;omega,⟨ar,qY⟩,an,by rw[rC];exact aaA _,d,hs⟩
   simp(disch:=omega)[bC,fH,Eg,rC,xW,I9,A,Q,sk,z_]
   by_cases W:(r.aG,r.nr)∈of.map (·.1)
   ·obtain⟨e,d,B⟩:=aag.1 W;obtain⟨j,E⟩:=aat d;obtain⟨⟨ea,en⟩,w,z⟩:=e;simp only[abJ.injEq] at B;obtain⟨rfl,rfl⟩:=B;have xA:=zBq b.ok E;have yl:=b.ov _ d;simp only at yl
    have hC:w.length<=64:=by rw[yl];exact My _ _
    have Xo:(w.length==0)=false:=by
     obtain⟨x,hx,eH⟩:=(b.om (r.aG,r.nr)).1 W
     have:x∈w:=by rw[yl,ia];exact abk.2 ⟨hx,by simpa using eH⟩
     have:=List.length_pos_of_mem this;exact beq_false_of_ne an
    have Mz:((w.length:Int)==0)=false:=aM (by have:=ne_of_beq_false Xo;omega);have hz:=b.oz _ d;simp only at hz;have N:=b.oa d;simp only at N;have gz:∀ R:ae,(Z++R)[z]?=some (some (.zone w.length)):=fun R=>Qp hz;have sz:∀(R:ae) (x:Option aw),(Z++R).set z x=Z.set z x++R:=fun R x=>aa9 _ _ N
    have hb:(of.map vO)[j]?=some (.agg [.int .u32 (r.aG:Int),.int .u32 (r.nr:Int)],.vs (RL w) (.own (z+9))):=by rw[aaG,E];rfl
    have F:(of.map vO).set j (.agg [.int .u32 (r.aG:Int),.int .u32 (r.nr:Int)],.vs (RL w) (.own (z+9)))=of.map vO:=Bp hb
    have e2:(of.map vO).set j (.agg [.int .u32 (r.aG:Int),.int .u32 (r.nr:Int)],.vs (RL (w++[r])) (.own (z+9)))=(of.set j ((r.aG,r.nr),w++[r],z)).map vO:=by rw[abi];rfl
    have O:((w.length+1)*40<=140737488355328)=True:=eq_true an;simp(disch:=omega)[CF,CE,Eg,rC,xW,I9,Xg,A,Q,gz,sz,xA,Mz,F,e2,hb,O,Xm,Xn];refine M (of.set j ((r.aG,r.nr),w++[r],z)) dh ms (Z.set z (some (.zone (w.length+1)))++[some (.cells r.cs),some (.cells [.int .u32 (r.aG:Int),.int .u32 (r.nr:Int)]),none]) _ _ ?_ ?_ ?_
    ·rw[eA,<-sz];exact(b.more (R:=[some (.cells r.cs),some (.cells [.int .u32 (r.aG:Int),.int .u32 (r.nr:Int)]),none]) (fun n=>by simp[aw.cl,Xh,aX,V.cl])).Xa E
    ·rw[abi];rfl
    ·simp(disch:=omega)[aq,fF,bE,-aaa]
   ·have xA:=zAn W;have Li:(Z.length+2<=Z.length)=False:=eq_false an;have MA:(Z.length+2<=Z.length+1)=False:=eq_false an;have Pw:(Z.length+3<=Z.length)=False:=eq_false an;have Xp:(Z.length+3<=Z.length+1)=False:=eq_false an
    have uM:(of.map vO++[(V.agg [.int .u32 (r.aG:Int),.int .u32 (r.nr:Int)],V.vs [] .full)])[of.length]?=some (V.agg [.int .u32 (r.aG:Int),.int .u32 (r.nr:Int)],V.vs [] .full):=by rw[aal ir];simp
    have H:∀ v,(of.map vO++[(V.agg [.int .u32 (r.aG:Int),.int .u32 (r.nr:Int)],V.vs [] .full)]).set of.length (V.agg [.int .u32 (r.aG:Int),.int .u32 (r.nr:Int)],v)=of.map vO++[(V.agg [.int .u32 (r.aG:Int),.int .u32 (r.nr:Int)],v)]:=fun v=>by rw[aaB _ _ ir];simp
    by_cases AI:r.aG∈dh.map (·.1)
    ·obtain⟨e,d,B⟩:=aag.1 AI;obtain⟨j,E⟩:=aat d;obtain⟨ea,I,z⟩:=e;simp only at B;subst B;have nV:=zBp (by rw[b.nk];exact Mu _) E;have Xq:=b.nv _ d;simp only at Xq
     have Xr:((I.length:Int)==0)=false:=by
      have:r.aG∈e_ (p.rules.take i):=by rw[<-b.nk];exact AI
      have:=aaL.2 (Ql this);rw[<-Xq] at this;exact aM an
     have hD:I.length<=64:=by
      have h1:=Mp (((p.rules.take i).filter fun x=>decide (x.aG=r.aG)).map (·.nr)) []
      have h2:=aa6 (fun x:Ru=>decide (x.aG=r.aG)) (p.rules.take i);have h3:=abc i p.rules;simp only[aa_,aa7,abh] at h1
      have:I.length<=((p.rules.take i).filter fun x=>decide (x.aG=r.aG)).length:=by rw[Xq];exact h1
      omega
     have hz:=b.nz _ d;simp only at hz;have N:=b.oe d;simp only at N;have gz:∀ R:ae,(Z++R)[z]?=some (some (.zone I.length)):=fun R=>Qp hz;have sz:∀(R:ae) (x:Option aw),(Z++R).set z x=Z.set z x++R:=fun R x=>aa9 _ _ N
     have hc:∀(x:Option aw) (R:ae) (k:Nat),(Z.set z x++R)[Z.length+k]?=R[k]?:=fun x R k=>by rw[aal ir,aaR];congr 1;omega
     have Xs:∀(x:Option aw) (R:ae),(Z.set z x++R)[Z.length]?=R[0]?:=fun x R=>hc x R 0
     have ht:∀(y:Option aw) (R:ae) (k:Nat) (x:Option aw),(Z.set z y++R).set (Z.length+k) x=Z.set z y++R.set k x:=fun y R k x=>by rw[aaB _ _ ir,aaR];congr 2;omega
     have O:((I.length+1)*4<=140737488355328)=True:=eq_true an
     have e3:(dh.map vN).set j (.int .u32 (r.aG:Int),.vs (aj .u32 (I++[r.nr])) (.own (z+9)))=(dh.set j (r.aG,I++[r.nr],z)).map vN:=by rw[abi];rfl
     simp(disch:=omega)[CF,CE,GY,GZ,Eg,rC,xW,I9,Xg,zBo,A,Q,gz,sz,hc,Xs,ht,xA,nV,Xr,uM,H,e3,O,Li,MA,Pw,Xp]
     have CI:∀ q∈dh.map (·.2.2)++of.map (·.2.2),q<Z.length:=by
      intro q C
      rcases aah.1 C with C|C
      ·obtain⟨e,d,rfl⟩:=aag.1 C;exact b.oe d
      ·obtain⟨e,d,rfl⟩:=aag.1 C;exact b.oa d
     refine M (of++[((r.aG,r.nr),[r],Z.length+3)]) (dh.set j (r.aG,I++[r.nr],z)) ms (Z.set z (some (.zone (I.length+1)))++[some (.cells r.cs),some (.cells [.int .u32 (r.aG:Int),.int .u32 (r.nr:Int)]),none,some (.zone 1)]) _ _ ?_ ?_ ?_
     ·rw[eA,<-sz];exact(b.more (R:=[some (.cells r.cs),some (.cells [.int .u32 (r.aG:Int),.int .u32 (r.nr:Int)]),none,some (.zone 1)]) (fun n=>by simp[aw.cl,Xh,aX,V.cl])).Xb W E (by rw[A];rfl) (fun h=>by have:=CI _ h;omega)
     ·rw[abi,aan];rfl
     ·simp(disch:=omega)[aq,fF,bE,-aaa]
    ·have nV:=zAm AI
     have hE:ms.length<=64:=by have h1:=Xt (p.rules.take i);have h3:=abc i p.rules;rw[b.rB];omega
     have O:((ms.length+1)*4<=140737488355328)=True:=eq_true an;have hu:(Z.length+4<=Z.length)=False:=eq_false an;have Xu:(Z.length+4<=Z.length+1)=False:=eq_false an;simp(disch:=omega)[CF,CE,GY,GZ,Xf,Eg,rC,xW,I9,Xg,zBo,zIn,A,Q,sk,xA,nV,uM,H,O,Li,MA,Pw,hu,Xu]
     have CI:∀ q∈dh.map (·.2.2)++of.map (·.2.2),q<Z.length:=by
      intro q C
      rcases aah.1 C with C|C
      ·obtain⟨e,d,rfl⟩:=aag.1 C;exact b.oe d
      ·obtain⟨e,d,rfl⟩:=aag.1 C;exact b.oa d
     refine M (of++[((r.aG,r.nr),[r],Z.length+4)]) (dh++[(r.aG,[r.nr],Z.length+3)]) (ms++[r.aG]) (Z++[some (.cells r.cs),some (.cells [.int .u32 (r.aG:Int),.int .u32 (r.nr:Int)]),none,some (.zone 1),some (.zone 1)]) _ _ ?_ ?_ ?_
     ·rw[eA];exact(b.more (R:=[some (.cells r.cs),some (.cells [.int .u32 (r.aG:Int),.int .u32 (r.nr:Int)]),none,some (.zone 1),some (.zone 1)]) (fun n=>by simp[aw.cl,Xh,aX,V.cl])).Xc AI (by rw[A];rfl) (by rw[A];rfl) (fun h=>by have:=CI _ h;omega) (fun h=>by have:=CI _ h;omega) an
     ·rw[aan,aan,aaw];rfl
     ·simp(disch:=omega)[aq,fF,bE,-aaa]
  ·have W:i=p.rules.length:=an
   subst W;rw[aau] at b;have yo:=(eR [] (fun _=>rfl)).self;simp only[abH,rC] at yo;simp(disch:=omega)[rC,Eg];have n_:=zp4 hl jI;unfold Ja at n_;have H:ms=e_ p.rules:=b.rB
   have hF:ms.length<=64:=by have:=Xt p.rules;rw[<-H] at this;omega
   obtain⟨S,hS⟩:∃ S:Nat->List af×List (Nat×Nat),∀ k,S k=jQ p.rules 1 (ms.take k) g:=⟨_,fun _=>rfl⟩
   have Cz:S 0=(g,[]):=by rw[hS];rfl
   have yy:S ms.length=jQ p.rules 1 (e_ p.rules) g:=by rw[hS,aau,H]
   have Of:1<=1/\1<=g.length:=⟨aaA _,an⟩
   have hh:∀ k,Came g ((S k).1,1) (Ac p.rules (ms.take k))/\nD (S k).1 (S k).2/\(S k).2.map (·.1)=ms.take k:=fun k=>by
    rw[hS];exact Qr K.1 (fun a ha=>by rw[H] at ha;exact aai ha) Of
   have MB:∀(c':List af) (r:ae),(∀ n,r.map (aaC (aw.cl n))=r)->fY (LH p c' (of.map vO) (dh.map vN) ms.length (Z++r)):=fun c' r t=>Xi (b.more t).cz (fun e d=>(b.more t).oa d) (fun e d=>(b.more t).oe d);have Xv:∀(c':List af) (r:ae),(∀ n,r.map (aaC (aw.cl n))=r)->lO (LH p c' (of.map vO) (dh.map vN) ms.length (Z++r)) 1 c' .no:=fun c' r t=>⟨rfl,.inl rfl,MB c' r t⟩;have dB:∀(c' c2:List af) (D:ae),dk (LH p c' (of.map vO) (dh.map vN) ms.length D) 1 c2=LH p c2 (of.map vO) (dh.map vN) ms.length D:=fun c' c2 D=>rfl
   have A:∀(R:ae) (k:Nat),(Z++R)[Z.length+k]?=R[k]?:=fun R k=>by rw[aal an];congr 1;omega
   have Q:∀(R:ae),(Z++R)[Z.length]?=R[0]?:=fun R=>A R 0
   have z_:∀(R:ae) (x:Option aw),(Z++R).set Z.length x=Z++R.set 0 x:=fun R x=>by rw[aaB _ _ an,aa1]
   have Qs:∀(c':List af) (k:Nat) (r:ae),ai (Z.length+1+9) (LH p c' (of.map vO) (dh.map vN) ms.length (Z++some (.zone k)::r))=LH p c' (of.map vO) (dh.map vN) ms.length (Z++[some (.zone k)]):=fun c' k r=>by
    have:=(MB c' [some (.zone k)] (fun _=>rfl)).back r;rw[Eg,rC,aaw,aaJ] at this;exact this
   refine aP ms.length (fun k=>[(4,.ptr 2 0),(5,.ptr 3 0),(12,.fn 425 [.ptr 7 0,.ptr 2 0,.ptr 5 0,.ptr 3 0]),(13,.vs (EL (S k).2) (.own (Z.length+9))),(79,.vs (aj .u32 ms) (.own 8)),(80,.int .i64 ms.length),(81,.int .i64 k)])
    (fun k=>LH p (S k).1 (of.map vO) (dh.map vN) ms.length (Z++[some (.zone k)])) (fun _=>True) ?_ ?_
   ·simp(disch:=omega)[aq,fF,rC,Cz,Qs,show EL []=[] from rfl]
   intro k hk _
   by_cases X:k<ms.length
   ·obtain⟨a,hw⟩:∃ a,a=ms[k]:=⟨_,rfl⟩
    have tu:ms[k]?=some a:=by rw[aac X,hw]
    have xT:(aj .u32 ms)[k]?=some [.int .u32 (a:Int)]:=by simp[tu]
    have we:(aj .u32 ms)[k]'(by simpa using X)=[.int .u32 (a:Int)]:=by rw[aac (by simpa using X)] at xT;exact aaN.inj xT
    have ho:a∈e_ p.rules:=by rw[<-H];exact aaf tu
    have P:S (k+1)=(vE p.rules 1 a (S k).1,(S k).2++[(a,(vE p.rules 1 a (S k).1).length)]):=by rw[hS,hS,aao,tu];exact zn1 _ _ _ _ _
    obtain⟨j1,j2,j3⟩:=hh k
    have vF:(S k).2.length=k:=by rw[<-aa_ (f:=(·.1)),j3,aaj];omega
    have W7:=WZ (CC p.rules) ms k a tu;rw[show eo (CC p.rules) ms=Ac p.rules (e_ p.rules) by rw[H];rfl] at W7;have gj:=j1.grown.len;obtain⟨⟨Y,W8⟩,qo⟩:∃ s,s=S k:=⟨_,rfl⟩;rw[<-qo] at P gj j1 vF |-;simp only[Ac] at P gj vF n_ W7
    have hy:∃ j z:Nat,dh[j]?=some (a,gu p.rules a,z):=by
     have:a∈dh.map (·.1):=by rw[b.nk];exact ho
     obtain⟨e,d,B⟩:=aag.1 this;obtain⟨j,E⟩:=aat d;have hv:=b.nv e d;obtain⟨F,e2,e3⟩:=e;simp only at B hv;subst B;exact⟨j,e3,by rw[E,hv]⟩
    obtain⟨jn,zn,vQ⟩:=hy;have Xw:=b.oe (aaf vQ);simp only at Xw
    have HA:zyg (dh.map vN) a (gu p.rules a) (LH p Y (of.map vO) (dh.map vN) ms.length (Z++[some (.zone k),none])).length :=
     ⟨jn,.own (zn+9),zBp (by rw[b.nk];exact Mu _) vQ,fun m hm=>by rw[rC] at hm;simp at hm;simp[Tk.cl];omega⟩
    have ij:∀ n∈gu p.rules a,zyh (of.map vO) a n (ia p.rules a n) (LH p Y (of.map vO) (dh.map vN) ms.length (Z++[some (.zone k),none])).length:=fun n hn=>by
     have:(a,n)∈of.map (·.1):=(b.om _).2 (by obtain⟨x,hx,F,e2⟩:=Qn.1 hn;exact⟨x,hx,abd F e2⟩)
     obtain⟨e,d,B⟩:=aag.1 this;obtain⟨j,E⟩:=aat d;have hv:=b.ov e d;have N:=b.oa d;obtain⟨F,e2,e3⟩:=e;simp only at B hv N;subst B;simp only at hv;subst hv;exact⟨j,.own (e3+9),zBq b.ok E,fun m hm=>by rw[rC] at hm;simp at hm;simp[Tk.cl];omega⟩
    have wb:=zyi (G:=G) (rs:=p.rules) (a:=a) (o:=1) (Xv Y [some (.zone k),none] (fun _=>rfl)) (pn:=7) (pm:=2) (po:=5) (px:=3) (mn:=6) (mo:=4) GZ Aa CF Mw GY CE HA ij K.1 ho an ⟨aaA _,an⟩ an;rw[dB] at wb;obtain⟨r1,H2,hB,kX,Xx⟩:=wb;have O:((k+1)*16<=140737488355328)=True:=eq_true an;have dT:=zvn W8 (a,(vE p.rules 1 a Y).length);simp only at dT;simp(disch:=omega)[bC,xT,Eg,rC]
    refine jL (H1:=H2) (by simpa using hB) (fun h=>by simp at h) ?_;rw[kX,Xx];simp(disch:=omega)[Qj,xW,I9,Q,z_,vF,O,dT,aq,fF,bE,P,Qs,X,-aaa]
   ·have AQ:k=ms.length:=an
    subst AQ;rw[yy]
    have G1:ms.length=(jQ p.rules 1 (e_ p.rules) g).2.length:=by obtain⟨_,_,h3⟩:=hh ms.length;rw[yy,aau] at h3;have:=congrArg aby h3;simpa using this.symm
    obtain⟨q1,q2,q3⟩:=Qr (rs:=p.rules) (o:=1) K.1 (l:=e_ p.rules) (c:=g) (fun _ h=>h) Of
    have I5:∀ e∈(jQ p.rules 1 (e_ p.rules) g).2,e.1<4294967296:=by
     intro e d
     have:e.1∈e_ p.rules:=by rw[<-q3];exact aag.2 ⟨e,d,rfl⟩
     obtain⟨r,t,h⟩:=Qm.1 this;rw[<-h];exact(K.1 r t).2.1
    have Xy:oS p=if(jQ p.rules 1 (e_ p.rules) g).2=[] then(dI (jQ p.rules 1 (e_ p.rules) g).2 ((jQ p.rules 1 (e_ p.rules) g).1,1)).1 else bS (dI (jQ p.rules 1 (e_ p.rules) g).2 ((jQ p.rules 1 (e_ p.rules) g).1,1)).1 32 4:=by rw[O9];rfl
    rw[Xy];have gq:=q1.grown.len
    have hG:(e_ p.rules).length=ms.length:=by rw[H]
    obtain⟨⟨J,u⟩,Xz⟩:∃ s,s=jQ p.rules 1 (e_ p.rules) g:=⟨_,rfl⟩;rw[<-Xz] at q1 q2 q3 I5 gq G1 |-;have XA:=q1.lP;simp only at gq G1 q2 I5 XA n_ |-;obtain⟨T,hT⟩:∃ T:Nat->si,∀ k,T k=dI (u.take k) (J,1):=⟨_,fun _=>rfl⟩
    have uG:T 0=(J,1):=by rw[hT];rfl
    have k_:T u.length=dI u (J,1):=by rw[hT,aau]
    have hA:∀ k,Came J (T k) (3*u.length):=fun k=>by
     rw[hT];exact(Qt (s:=(J,1)) (fun e d=>q2 e (aai d)) (fun e d=>I5 e (aai d)) XA).mono (by rw[aaj];omega)
    have gG:u.length=ms.length:=G1.symm;simp(disch:=omega)[rC,Mw,gG];have hM:=fun c'=>Xv c' [some (.zone ms.length)] (fun _=>rfl)
    refine aP ms.length (fun k=>[(4,.ptr 2 0),(13,.vs (EL u) (.own (Z.length+9))),(16,.int .i64 (T k).2),(95,.vs (EL u) (.own (Z.length+9))),(96,.int .i64 ms.length),(97,.int .i64 k)])
     (fun k=>LH p (T k).1 (of.map vO) (dh.map vN) ms.length (Z++[some (.zone ms.length)])) (fun _=>True) ?_ ?_
    ·simp(disch:=omega)[aq,fF,rC,uG,Qs]
    intro k hk _
    by_cases X:k<ms.length
    ·have G2:k<u.length:=an
     obtain⟨x,uD⟩:∃ x,x=u[k]'G2:=⟨_,rfl⟩
     have xE:u[k]?=some x:=by rw[aac G2,uD]
     have L:=zye xE
     have we:(EL u)[k]'(by simpa using G2)=[.int .u32 (x.1:Int),.int .i64 (x.2:Int)]:=by rw[aac (by simpa using G2)] at L;exact aaN.inj L
     have iG:T (k+1)=(gr (T k).1 21 x.1 x.2 (T k).2,(gr (T k).1 21 x.1 x.2 (T k).2).length):=by rw[hT,hT,aao,xE];exact zn2 _ _ _
     have tc:=Qt (l:=u.take k) (s:=(J,1)) (fun e d=>q2 e (aai d)) (fun e d=>I5 e (aai d)) XA;rw[<-hT] at tc;have gt:=tc.grown.len;have lt:=tc.lP;rw[aaj] at gt;have lx:=q2 x (aaf xE);simp only at lx gt;obtain⟨⟨Y,o1⟩,qo⟩:∃ s,s=T k:=⟨_,rfl⟩;rw[<-qo] at iG gt lt |-;simp only at gt lt iG;have wb:=GM (G:=G) (Xv Y [some (.zone ms.length),some (.cells [.int .u32 (x.1:Int),.int .i64 (x.2:Int)])] (fun n=>rfl)) 21 x.1 x.2 o1 (.inl rfl) ⟨lx.1,an⟩ lt an
     rw[dB] at wb;simp(disch:=omega)[bC,L,Eg,rC,xW,I9,A,Aa];refine cC wb ?_;simp(disch:=omega)[aq,fF,bE,iG,Qs,X,-aaa]
    ·have XB:k=ms.length:=an
     subst XB
     have tG:T ms.length=dI u (J,1):=by rw[<-gG];exact k_
     by_cases gH:u=[]
     ·have Lg:ms.length=0:=by rw[<-gG,gH];rfl
      have MC:(0<ms.length)=False:=eq_false an;rw[if_pos gH];rw[tG];generalize dI u (J,1)=s2;simp(disch:=omega)[rC,gG,MC,Mv,Aa,FL]
     ·have Lg:ms.length≠0:=by rw[<-gG];exact fun h=>gH (aaK.1 h)
      have MC:((0:Int)<(ms.length:Int))=True:=eq_true an;have tc:=(hA ms.length).grown.len;rw[tG] at tc;rw[if_neg gH];rw[tG];generalize dI u (J,1)=s2 at *;have wa:=I1 (G:=G) (hM s2.1) 32 4 (.inr (.inr ⟨rfl,by decide,by decide⟩)) an;rw[dB] at wa;simp(disch:=omega)[fF,rC,gG,Aa];refine cC wa ?_;simp(disch:=omega)[rC,Mv,Aa,FL]
def zvo(k i:Nat)(hi:i<4)(b:k<4294967296):tj .u32 ((k%256^i:Nat):Int) (iH .u32 ((k/256^i%256:Nat):Int) ((8*i:Nat):Int))=((k%256^(i+1):Nat):Int):=by
 rw[J2 an]
 have e:256^i=2^(8*i):=by rw[Nat.pow_mul]
 have c:k/256^i%256<256:=aaY _ (by decide)
 have a:k/256^i%256*2^(8*i)<4294967296:=by
  have:i=0\/i=1\/i=2\/i=3:=an
  rcases this with rfl|rfl|rfl|rfl<;>simp at c |-<;>omega
 have d:k%256^i<2^32:=Nat.lt_of_le_of_lt (Nat.mod_le _ _) b;rw[aay a,wY d a]
 have f:k%256^i<2^(8*i):=by rw[e];exact aaY _ (Nat.two_pow_pos _)
 rw[abQ,abR,<-abe f]
 congr 1
 rw[abu,Nat.mod_mul,e];omega
def SE.fp{f:Nat}{args:List V}{s:List UInt8}(h:SE G f args [] (.str s)):FP G f args (.str s):=by obtain⟨H1,a,_⟩:=h;exact⟨_,_,a,ir⟩
def XC:fY []:=fun _ _=>rfl
def XD:∀{t:List TR},s6 t=true↔∀(j:Nat) (a b:TR),t[j]?=some a->t[j+1]?=some b->vH a b=true
 | []=>by simp[s6]
 | [a]=>by simp[s6]
 | a::b::l=>by
  rw[s6,aak,XD (t:=b::l)];constructor
  ·rintro⟨e,f⟩ j x y c d
   cases j with
   | zero=>simp at c d;rw[<-c,<-d];exact e
   | succ j=>exact f j x y (by simpa using c) (by simpa using d)
  ·intro h;exact⟨h 0 a b rfl rfl,fun j x y c d=>h (j+1) x y (by simpa using c) (by simpa using d)⟩
def MD(t:List TR)(i:Nat):Prop:=∀ j<i,∀ r,t[j]?=some r->r.may=true/\∀ q,0<j->t[j-1]?=some q->vH q r=true
def zCG{t:List TR}(h:MD t t.length):dD t=decide (t.length<=64):=by
 have e:t.all TR.may=true:=by rw[aaD];intro r f;obtain⟨j,c⟩:=aat f;exact(h j (aae.1 c).1 r c).1
 have g:s6 t=true:=XD.2 fun j a b i d=>(h (j+1) (aae.1 d).1 b d).2 a an (by simpa using i);simp[dD,e,g]
def ME{t:List TR}(h:dD t=true):MD t t.length/\t.length<=64:=by simp only[dD,aak,decide_eq_true_eq] at h;obtain⟨⟨b,c⟩,d⟩:=h;refine⟨fun j f r a=>⟨aaD.1 b r (aaf a),fun q g e=>?_⟩,d⟩;exact XD.1 c (j-1) q r e (by rw[show j-1+1=j by omega];exact a)
def zvp{t:List TR}{i:Nat}{r:TR}(a:t[i]?=some r)(h:r.may=false\/∃ q,0<i/\t[i-1]?=some q/\vH q r=false):dD t=false:=by
 cases d:dD t with
 | false=>rfl
 | true =>
  obtain⟨b,e⟩:=(ME d).1 i (aae.1 a).1 r a
  rcases h with h|⟨q,f,g,c⟩
  ·rw[h] at b;cases b
  ·have:=e q f g;rw[this] at c;cases c
def MF[aB G][aA G][aL G][dU G][cI G](t:List TR)(U:t.length<=1000000)(C:∀ r∈t,r.ok):FP G 354 [TF t] (.bool (dD t)):=by
 refine bF cI.adT (aab rfl) ?_;simp[TF];refine aP t.length (fun i=>[(0,TF t),(5,TF t),(6,.int .i64 t.length),(7,.int .i64 i)]) (fun _=>[]) (fun i=>MD t i) ?_ ?_
 ·simp[aq,ai,TF];intro j l;omega
 intro i hi m
 by_cases e:i<t.length
 ·obtain⟨x,D⟩:∃ x,x=t[i]:=⟨_,rfl⟩
  have a:t[i]?=some x:=by rw[D];exact aac e
  have L:=G3 a;have M:x∈t:=aaf a;have E:=C x M;have o:x.cs.length=3:=rfl;have p:x.cs.take 3=x.cs:=rfl
  have N:∀ n,aX n x.cs=x.cs:=fun n=>by simp[TR.cs,aX,V.cl,Tk.cl]
  have O:(TL t)[i]'(by simpa using e)=x.cs:=by simp[TL,D]
  have c:=zrN (G:=G) x E;simp(disch:=omega)[bC,TF,L,O,o,p,N];simp only[TV] at c;refine ax c ?_
  cases f:x.may with
  | false =>
   have s:=zvp a (.inl f)
   simp[s]
  | true =>
   by_cases g:0<i
   ·obtain⟨q,F⟩:∃ q,q=t[i-1]'(by omega):=⟨_,rfl⟩
    have d:t[i-1]?=some q:=by rw[F];exact aac an
    have u:(TL t)[i-1]'(by simp;omega)=q.cs:=by simp[TL,F]
    have v:=G3 d;have w:=(m (i-1) an q d).1;have y:=C q (aaf d);have P:q.cs.length=3:=rfl;have z:q.cs.take 3=q.cs:=rfl;have H:=(MH (G:=G) q y w [] XC).fp;have I:=(MH (G:=G) x E f [] XC).fp;simp only[TV] at H I
    have Q:cM .i64 (i:Int) 1=((i-1:Nat):Int):=by rw[oB]<;>omega
    simp(disch:=omega)[g,Q,v,u,P,z,o,p,az,fF];refine ax H ?_;simp(disch:=omega)[o,p];refine ax I ?_
    cases k:vH q x with
    | false =>
     have s:=zvp a (.inr ⟨q,g,d,k⟩);have A:Op.bytesLess q.by x.by=false:=k
     simp[A,s]
    | true =>
     have A:Op.bytesLess q.by x.by=true:=k
     have B:MD t (i+1):=fun j l r b=>by
      rcases aaW.1 l with h|rfl
      ·exact m j h r b
      ·rw[a] at b;cases b;exact⟨f,fun W _ J=>by rw[d] at J;cases J;exact k⟩
     simp(disch:=omega)[A,e,bE,aq,ai,TF,-aaa];exact B
   ·have R:i=0:=an
    subst R
    have B:MD t 1:=fun j l r b=>by
     have:j=0:=an
     subst this;rw[a] at b;cases b;exact⟨f,fun q g=>absurd g an⟩
    have S:aD .i64 0 1=1:=by rw[dW]<;>omega
    simp(disch:=omega)[aq,ai,TF,S,e,B]
 ·have T:i=t.length:=an
  subst T;have:=zCG m
  by_cases K:t.length<=64
  ·have h:((t.length:Int)<=64)=True:=eq_true an;simp[this,K,h,TF]
  ·have h:((t.length:Int)<=64)=False:=eq_false an;simp[this,K,h,TF]
def XF[cI G](r:TR)(c:r.fr.length<=1000000)(d:r.to.length<=1000000):FP G 356 [TV r] (TV r):=by
 refine bF cI.adV (aab rfl) ?_
 have e:r.fr.length*32<=140737488355328:=an
 have f:r.to.length*32<=140737488355328:=an
 by_cases a:r.fr=[]<;>by_cases b:r.to=[] <;>
  simp(disch:=omega)[TV,TR.cs,zuH,a,b,az]
def zAo{t:List TR}{x y:TR}{i:Nat}(h:∀ j<i,∀ z,t[j]?=some z->vH z x=true)(b:t[i]?=some y)(c:vH y x=false):og t x=i:=by
 induction t generalizing i with
 | nil=>simp at b
 | cons a t d =>
  cases i with
  | zero=>simp at b;subst b;simp[og,c]
  | succ i =>
   have e:=h 0 an a rfl;have:=d (i:=i) (fun j g z f=>h (j+1) an z (by simpa using f)) (by simpa using b);simp only[og] at this |-;simp[e,this]
def zyk{t:List TR}{x:TR}(h:∀ z∈t,vH z x=true):og t x=t.length:=by
 induction t with
 | nil=>rfl
 | cons a t b =>
  have:=b fun z c=>h z (by simp[c]);simp only[og] at this |-;simp[h a ir,this]
def zyl[aB G][dU G][cI G](t:List TR)(x:TR)(U:t.length<=1000000)(L:∀ r∈t,r.ok)(M:∀ r∈t,r.may=true)(N:x.ok)(O:x.may=true)(H:ae)(o:fY H) :
  SE G 355 [TF t,TV x,.fn 353 []] H (.bc [.int .i64 (og t x:Nat),.bool (qi t x)]):=by
 refine zBu cI.adU (aab rfl) ?_;have I:=LB o;have J:∀ s:ae,ai H.length (H++s)=H:=fun s=>o.back s;have d:x.cs.length=3:=rfl;have e:x.cs.take 3=x.cs:=rfl
 have p:∀ n,aX n x.cs=x.cs:=fun n=>by simp[TR.cs,aX,V.cl,Tk.cl]
 have q:=fun s u=>MH (G:=G) x N O s u;simp only[TV] at q;simp[TF,TV,jW,fW,wT,uS];refine aP t.length (fun i=>[(0,TF t),(2,.fn 353 []),(4,.ptr H.length 0),(10,TF t),(11,.int .i64 t.length),(12,.int .i64 i)]) (fun _=>H++[some (.cells x.cs)]) (fun i=>∀ j<i,∀ z,t[j]?=some z->vH z x=true) ?_ ?_
 ·simp[aq,TF,I,aw.cl,p]
 intro i hi v
 by_cases w:i<t.length
 ·obtain⟨y,K⟩:∃ y,y=t[i]:=⟨_,rfl⟩
  have a:t[i]?=some y:=by rw[K];exact aac w
  have P:=G3 a;have Q:=M y (aaf a);have A:=L y (aaf a);have f:y.cs.length=3:=rfl;have g:y.cs.take 3=y.cs:=rfl
  have ky:∀ n,aX n y.cs=y.cs:=fun n=>by simp[TR.cs,aX,V.cl,Tk.cl]
  have R:(TL t)[i]'(by simpa using w)=y.cs:=by simp[TL,K]
  have B:=fun s u=>MH (G:=G) y A Q s u;simp only[TV] at B
  have k:fY (H++[some (.cells x.cs),some (.cells y.cs)]):=o.app fun n=>by simp[aw.cl,p,ky]
  have C:¬H.length+2<=H.length:=an
  have D:¬H.length+2<=H.length+1:=an
  simp(disch:=omega)[bC,TF,P,R,f,g,d,e,jW,fW,wT,uS];refine SE.vcall (args:=[.agg y.cs]) (cap:=[]) (B _ k) rfl ?_;simp(disch:=omega)[D,C,f,g,d,e,jW,fW,wT,uS];refine SE.vcall (args:=[.agg x.cs]) (cap:=[]) (q _ k) rfl ?_
  cases l:vH y x with
  | true =>
   have E:Op.bytesLess y.by x.by=true:=l
   have S:∀ j<i+1,∀ z,t[j]?=some z->vH z x=true:=fun j m z b=>by
    rcases aaW.1 m with h|rfl
    ·exact v j h z b
    ·rw[a] at b;cases b;exact l
   simp(disch:=omega)[E,w,bE,aq,I,aw.cl,p,TF,-aaa]
   exact S
  | false =>
   have E:Op.bytesLess y.by x.by=false:=l;have c:=zAo v a l
   have F:qi t x=decide (y.by=x.by):=by rw[qi,c,a]
   simp(disch:=omega)[E,D,C,f,g,d,e,jW,fW,wT,uS];refine SE.vcall (args:=[.agg y.cs]) (cap:=[]) (B _ k) rfl ?_;simp(disch:=omega)[D,C,f,g,d,e,jW,fW,wT,uS];refine SE.vcall (args:=[.agg x.cs]) (cap:=[]) (q _ k) rfl ?_;simp[J,c,F];exact abl.2 ir
 ·have T:i=t.length:=an
  subst T
  have c:=zyk (t:=t) (x:=x) fun z b=>by
   obtain⟨j,m⟩:=aat b;exact v j (aae.1 m).1 z m
  have F:qi t x=false:=by rw[qi,c,List.getElem?_eq_none (aaA _)]
  simp[TF,J,c,F]
def zAp[cI G](f g:List af)(r:f.length<=1000000):FP G 358 [FL f,FL g] (.bool (decide (f=g))):=by
 refine bF cI.adX (aab rfl) ?_
 by_cases c:f.length=g.length
 ·have j:((f.length:Int) !=(g.length:Int))=false:=by simp[c]
  simp[FL,j];refine aP f.length (fun i=>[(0,FL f),(1,FL g),(12,.int .i64 f.length),(13,.int .i64 i)]) (fun _=>[]) (fun i=>f.take i=g.take i) ?_ ?_
  ·simp[aq,ai,FL,c]
  intro i hi k
  by_cases l:i<f.length
  ·obtain⟨x,a⟩:∃ x,x=f[i]:=⟨_,rfl⟩
   have p:i<g.length:=an
   obtain⟨y,b⟩:∃ y,y=g[i]:=⟨_,rfl⟩;have m:=qT l;have n:=qT p;rw[<-a] at m;rw[<-b] at n;have a:=a.symm;have b:=b.symm;have d:=yI x y
   by_cases e:x=y
   ·rw[decide_eq_true e] at d
    have q:f.take (i+1)=g.take (i+1):=by rw[aao,aao,k,aac l,aac p,a,b,e]
    simp(disch:=omega)[bC,FL,m,n,a,b,d,l,bE,aq,ai,q,-aaa]
   ·rw[decide_eq_false e] at d
    have o:¬f=g:=by rintro rfl;exact e (a.symm.trans b)
    simp(disch:=omega)[bC,FL,m,n,a,b,d,o,-aaa]
  ·have o:i=f.length:=an
   subst o;rw[aau,c,aau] at k;simp[FL,k]
 ·have j:((f.length:Int) !=(g.length:Int))=true:=by simp;omega
  have:¬f=g:=fun h=>c (by rw[h]);simp[FL,j,this]
def MJ(t:List TR):(∀ f∈TL t,f.length=3)=True:=by simp only[eq_iff_iff,iff_true];intro f a;simp only[TL,aag] at a;obtain⟨x,_,rfl⟩:=a;rfl
def XI(r:TR):r.cs.all V.pure=true:=by simp[TR.cs]
def Qu(t:List TR)(r:TR):TL t++[r.cs]=TL (t++[r]):=by simp[TL]
def zIo{a:Nat}(h:a<4294967296):jg .u32 (a:Int) 262143=((a%262144:Nat):Int):=by unfold jg;rw[show(262143:Int)=((262143:Nat):Int) from rfl,qq,qq,BitVec.toNat_and,aaO,aaO];have b:a%2^IntKind.u32.bits=a:=aay h;have c:262143%2^IntKind.u32.bits=2^18-1:=rfl;rw[b,c,Nat.and_two_pow_sub_one_eq_mod];exact uB (by have:=aaY a (show 0<2^18 by decide);omega)
def nG:Option (List af)->V
 | some x=>.bc [.vs (IL x) .no,.bool true]
 | none=>.bc [.vs [] .no,.bool false]
def G4{r:TR}(h:r.may=true):r.fr.length<=32/\r.to.length<=32:=by simp only[TR.may,aak] at h;exact⟨(Jc h.1.1.1).1,(Jc h.1.1.2).1⟩
def zAq[aB G][aA G][aL G][dU G][cI G](t:List TR)(w:List af)(live:Nat)(u:t.length<=1000000)(v:∀ r∈t,r.ok)(y:live<4294967296) :
  FP G 359 [TF t,FL w,.int .u32 live] (nG (A9 t w live)):=by
 refine bF cI.adY (aab rfl) ?_;have a:=MF (G:=G) t u v;simp only[TF] at a;simp[TF];refine ax a ?_
 cases d:dD t with
 | false=>simp[A9,d,nG]
 | true =>
  have z:∀ r∈t,r.may=true:=fun r a=>by
   simp only[dD,aak] at d;exact aaD.1 d.1.1 r a
  simp;refine aP t.length (fun i=>[(1,FL w),(2,.int .u32 live),(13,TF t),(14,.int .i64 t.length),(15,.int .i64 i)]) (fun _=>[]) (fun i=>∀ j<i,∀ r,t[j]?=some r->(decide (r.fr=w)&&decide (live%262144=r.lv))=false) ?_ ?_
  ·simp[aq,ai,TF,FL]
  intro i hi k
  by_cases e:i<t.length
  ·obtain⟨x,l⟩:∃ x,x=t[i]:=⟨_,rfl⟩
   have m:t[i]?=some x:=by rw[l];exact aac e
   have A:=G3 m;have B:=z x (aaf m);obtain⟨F,H⟩:=G4 B
   have C:(TL t)[i]'(by simpa using e)=x.cs:=by simp[TL,l]
   have p:=zAp (G:=G) x.fr w an;simp only[FL] at p;simp(disch:=omega)[bC,TF,FL,A,C,TR.cs];refine ax p ?_;have n:=zIo y
   have next:(decide (x.fr=w)&&decide (live%262144=x.lv))=false->∀ j<i+1,∀ r,t[j]?=some r->(decide (r.fr=w)&&decide (live%262144=r.lv))=false:=fun D j b r a=>by
    rcases aaW.1 b with h|rfl
    ·exact k j h r a
    ·rw[m] at a;cases a;exact D
   by_cases c:x.fr=w
   ·by_cases q:live%262144=x.lv
    ·have f:(((live%262144:Nat):Int)==(x.lv:Int))=true:=by simp;omega
     have g:A9 t w live=some x.to:=by
      rw[A9,d,if_pos rfl]
      have:t.find? (fun r=>decide (r.fr=w)&&decide (live%262144=r.lv))=some x:=by rw[List.find?_eq_some_iff_getElem];refine⟨by simp[c,q],i,e,l.symm,fun j b=>?_⟩;rw[k j b _ (aac an)];rfl
      rw[this];rfl
     by_cases s:x.to=[]
     ·simp(disch:=omega)[c,n,f,s,g,nG,-aaH]
     ·simp(disch:=omega)[c,n,f,s,zuH,az,g,nG,-aaH]
    ·have f:(((live%262144:Nat):Int)==(x.lv:Int))=false:=aM an;have:=next (by simp[q]);simp(disch:=omega)[c,n,f,e,bE,aq,ai,TF,FL,-aaa,-aaH]
     exact fun j b r a o=>by have:=this j b r a;simpa[o] using this
   ·have:=next (by simp[c]);simp(disch:=omega)[c,e,bE,aq,ai,TF,FL,-aaa,-aaH]
    exact fun j b r a o=>by have:=this j b r a;simpa[o] using this
  ·have E:i=t.length:=an
   subst E
   have g:A9 t w live=none:=by rw[A9,d,if_pos rfl,Option.map_eq_none_iff,List.find?_eq_none];intro r a;obtain⟨j,b⟩:=aat a;rw[k j (aae.1 b).1 r b];simp
   simp[g,nG]
def zym[aB G][aA G][aL G][dU G][cI G](t:List TR)(r:TR)(L:t.length<=1000000)(M:∀ r∈t,r.ok)(N:r.ok) :
  FP G 357 [TF t,TV r] (.bc [TF (qj t r).1,.int .i64 (qj t r).2]):=by
 refine bF cI.adW (aab rfl) ?_;have u:=MF (G:=G) t L M;have f:=zrN (G:=G) r N;have v:r.cs.length=3:=rfl;have w:r.cs.take 3=r.cs:=rfl
 have g:∀ n,aX n r.cs=r.cs:=fun n=>by simp[TR.cs,aX,V.cl,Tk.cl]
 simp only[TF,TV] at u f;simp[TF,TV];refine ax u ?_
 cases a:dD t with
 | false=>simp[qj,a]
 | true =>
  simp[v,w];refine ax f ?_
  cases d:r.may with
  | false=>simp[qj,a,d]
  | true =>
   have A:∀ r∈t,r.may=true:=fun r u=>by
    simp only[dD,aak] at a;exact aaD.1 a.1.1 r u
   have yz:=(ME a).2;have O:=zyl (G:=G) t r L M A N d [some (.cells r.cs)] (fun n _=>by simp[aw.cl,g]);simp only[TF,TV] at O;simp[v,w];refine SE.scall O rfl ?_
   cases B:qi t r with
   | true=>simp[qj,a,d,B]
   | false =>
    by_cases C:t.length=64
    ·have E:((t.length:Int)==64)=true:=by simp[C]
     simp[qj,a,d,B,C,E]
    ·have E:((t.length:Int)==64)=false:=aM an;have X:=ztP t r;obtain⟨p,F⟩:∃ p,p=og t r:=⟨_,rfl⟩
     have Y:qj t r=(t.take p++r::t.drop p,0):=by simp[qj,a,d,B,C,F]
     rw[<-F] at X;rw[Y,<-F]
     have Z:(TL t).take p=TL (t.take p):=by simp[TL]
     have h:(TL t).drop p=TL (t.drop p):=by simp[TL]
     have rX:(t.take p).length=p:=by rw[aaj];omega
     have yl:=G4 d;have P:=XF (G:=G) r an an;have ml:=XI r;simp only[TV] at P;obtain⟨T,k⟩:∃ T:Nat->List TR,∀ j,T j=t.take j:=⟨_,fun _=>rfl⟩
     have uG:T 0=[]:=by rw[k];rfl
     have Q:∀ j,j<=t.length->(T j).length=j:=fun j R=>by rw[k,aaj];omega
     simp(disch:=omega)[E,az,Z,rX,MJ]
     refine aP p (fun i=>[(0,TF t),(3,.ptr 0 0),(6,.int .i64 p),(8,.vs (TL (T i)) (.own 1)),(38,.vs (TL (t.take p)) .no),(39,.int .i64 p),(40,.int .i64 i)])
      (fun i=>[some (.cells r.cs),some (.zone i)]) (fun _=>True) ?_ ?_
     ·simp[aq,ai,TF,uG,TL,aw.cl,g]
     intro i hi _
     by_cases x:i<p
     ·obtain⟨y,H⟩:∃ y,y=t[i]'(by omega):=⟨_,rfl⟩
      have b:t[i]?=some y:=by rw[H];exact aac _
      have zW:(t.take p)[i]?=some y:=by rw[aa2,if_pos x,b]
      have l:=G3 zW
      have I:(TL (t.take p))[i]'(by simp;omega)=y.cs:=by have:=aae.1 l;exact this.2
      have XG:=G4 (A y (aaf b));have m:=XF (G:=G) y an an;simp only[TV] at m;have o:y.cs.length=3:=rfl;have q:y.cs.take 3=y.cs:=rfl;have c:=XI y
      have e:TL (T i)++[y.cs]=TL (T (i+1)):=by rw[k,k,Qu,aao,b];rfl
      have z:=Q i an;simp(disch:=omega)[bC,l,I,o,q];refine ax m ?_;simp(disch:=omega)[o,q,c,e,z,MJ,az,x,bE,aq,ai,TF,aw.cl,g,-aaa]
     ·have J:i=p:=an
      subst J;obtain⟨D,K⟩:∃ D,D=t.drop i:=⟨_,rfl⟩
      have S:D.length=t.length-i:=by rw[K,aax]
      have e:TL (T i)++[r.cs]=TL (T i++[r]):=Qu _ _;have z:=Q i an;obtain⟨U,s⟩:∃ U:Nat->List TR,∀ j,U j=T i++[r]++D.take j:=⟨_,fun _=>rfl⟩
      have W:T i++[r]=U 0:=by rw[s,abL,abH]
      have Jd:∀ j,j<=D.length->(U j).length=i+1+j:=fun j R=>by rw[s,aaw,aaw,z,aaj];simp;omega
      rw[W] at e;simp[bC,v,w];refine ax P ?_;rw[<-K] at h |-
      have ES:(TL D).take (t.length-i)=TL D:=by rw[aaq];simp;omega
      simp(disch:=omega)[TF,ES,v,w,ml,e,z,MJ,az,h,S]
      refine aP D.length (fun j=>[(8,.vs (TL (U j)) (.own 1)),(57,.vs (TL D) .no),(58,.int .i64 D.length),(59,.int .i64 j)])
       (fun j=>[some (.cells r.cs),some (.zone (i+1+j)),none]) (fun _=>True) ?_ ?_
      ·simp[aq,ai,W,aw.cl,g,S]
      intro j R _
      by_cases x:j<D.length
      ·obtain⟨y,H⟩:∃ y,y=D[j]'(by omega):=⟨_,rfl⟩
       have b:D[j]?=some y:=by rw[H];exact aac _
       have l:=G3 b;have I:(TL D)[j]'(by simp;omega)=y.cs:=(aae.1 l).2
       have ML:y∈t:=by have:=aaf b;rw[K] at this;exact aam this
       have XG:=G4 (A y ML);have m:=XF (G:=G) y an an;simp only[TV] at m;have o:y.cs.length=3:=rfl;have q:y.cs.take 3=y.cs:=rfl;have c:=XI y
       have e:TL (U j)++[y.cs]=TL (U (j+1)):=by rw[s,s,Qu,aao,b];simp
       have gZ:=Jd j an;simp(disch:=omega)[bC,l,I,o,q];refine ax m ?_;simp(disch:=omega)[o,q,c,e,gZ,MJ,az,x,bE,aq,ai,aw.cl,g,-aaa];omega
      ·have J:j=D.length:=an
       subst J
       have cB:U D.length=t.take i++r::D:=by rw[s,aau,k];simp
       simp[cB]
def vJ(b:List Nat)(k:Nat):af:=⟨(b.getD (8*k) 0+256*b.getD (8*k+1) 0:Nat),b.getD (8*k+2) 0,b.getD (8*k+3) 0,b.getD (8*k+4) 0+256*b.getD (8*k+5) 0+65536*b.getD (8*k+6) 0+16777216*b.getD (8*k+7) 0⟩
def mE(b:List Nat):List af:=(aba (b.length/8)).map (vJ b)
def nH(b:List Nat):Option (List af):=if b.length<=32768/\b.length%8=0/\(mE b).all jw=true then some (mE b) else none
def zBr(l:List Nat)(h:8<=l.length):∃ a b c d e f g i r,l=a::b::c::d::e::f::g::i::r:=by
 match l,h with
 | a::b::c::d::e::f::g::i::r,_=>exact⟨a,b,c,d,e,f,g,i,r,rfl⟩
def zD7{a b c d e f g i:Nat}(h:∀ x∈[a,b,c,d,e,f,g,i],x<256)(r:List Nat) :
  oT (vJ (a::b::c::d::e::f::g::i::r) 0)=[a,b,c,d,e,f,g,i]:=by
 simp only[aaZ,abB,or_false,forall_eq_or_imp,forall_eq] at h;obtain⟨j,k,l,m,n,o,p,q⟩:=h;simp[oT,vJ,fE,aba,aba.loop];omega
def zCH{c b:List Nat}(d:c.length=8)(k:Nat):vJ (c++b) (k+1)=vJ b k:=by
 have e:∀ i,(c++b).getD (8*(k+1)+i) 0=b.getD (8*k+i) 0:=fun i=>by
  rw[aar,aar,aal an]
  congr 2;omega
 have a:=e 0;simp only[abt] at a;simp only[vJ,e,a]
def zyn{c b:List Nat}(a:c.length=8):mE (c++b)=vJ (c++b) 0::mE b:=by
 unfold mE;rw[aaw,a,show(8+b.length)/8=b.length/8+1 by omega,List.range_succ_eq_map,aaS,abr]
 congr 1
 refine abb fun k _=>?_;exact zCH a k
def ztv:∀(n:Nat) {b:List Nat},b.length=8*n->(∀ x∈b,x<256)->kQ (mE b)=b
 | 0,b,h,_=>by
  have:b=[]:=aaK.1 an
  subst this;rfl
 | n+1,b,h,m=>by
  obtain⟨a,d,e,f,g,i,j,k,r,rfl⟩:=zBr b an;have:=zyn (c:=[a,d,e,f,g,i,j,k]) (b:=r) rfl;simp only[aaU,abF] at this;rw[this,show ∀(x:af) (w:List af),kQ (x::w)=oT x++kQ w from fun _ _=>rfl,zD7 (fun x l=>m x (by rw[show a::d::e::f::g::i::j::k::r=[a,d,e,f,g,i,j,k]++r from rfl];exact List.mem_append_left _ l)) r,ztv n (by simp at h;omega) (fun x l=>m x (by simp[l]))]
  rfl
def XM{b:List Nat}(a:∀ x∈b,x<256)(k:Nat):(vJ b k).k<4294967296:=by
 have e:∀ i,b.getD i 0<256:=fun i=>by
  rw[aar]
  cases h:b[i]? with
  | none=>simp
  | some x=>exact a x (aaf h)
 have c:=e (8*k+4);have d:=e (8*k+5);have f:=e (8*k+6);have g:=e (8*k+7);simp only[vJ];omega
def zrz{b:List Nat}{w:List af}(a:∀ x∈b,x<256)(h:nH b=some w):kQ w=b/\(∀ x∈w,jw x=true)/\(∀ x∈w,x.k<4294967296)/\w.length<=4096:=by
 unfold nH at h;split at h
 ·rename_i d;obtain⟨f,g,e⟩:=d;cases h;refine⟨ztv (b.length/8) an a,by simpa using e,fun x c=>?_,by simp[mE];omega⟩;simp only[mE,aag] at c;obtain⟨k,_,rfl⟩:=c;exact XM a k
 ·cases h
def XN{a b:Nat}(c:a<256)(d:b<256):tj .i64 (a:Int) (iH .i64 (b:Int) 8)=((a+256*b:Nat):Int):=by
 have h:=PD (a:=b) (j:=8) an an;rw[show((8:Nat):Int)=8 from rfl] at h;rw[h,Gf an an,abQ,abR,<-abe (i:=8) an]
 congr 1;omega
def zpG[aB G][jE G](b:List Nat)(f:∀ x∈b,x<256)(hl:b.length<=1000000):∃ e:Int,FP G 429 [.vs (aj .u8 b) .no] (.bc [FL ((nH b).getD []),.int .i64 e])/\((e==0)=(nH b).isSome):=by
 by_cases C:32768<b.length
 ·have d:nH b=none:=if_neg fun h=>by omega
  refine⟨3,?_,by rw[d];rfl⟩;refine bF jE.aeC (aab rfl) ?_;have t:(32768<(b.length:Int))=True:=eq_true an;rw[d];simp[t,FL]
 have t:(32768<(b.length:Int))=False:=eq_false an;have Z:oE (b.length:Int) 8=((b.length%8:Nat):Int):=E7 (b:=8)
 by_cases u:b.length%8=0
 rotate_left
 ·have d:nH b=none:=if_neg fun h=>by omega
  refine⟨9,?_,by rw[d];rfl⟩;refine bF jE.aeC (aab rfl) ?_
  have g3:(((b.length%8:Nat):Int) !=0)=true:=by simp;omega
  rw[d];simp[t,Z,g3,FL,-aaH]
 have g3:(((b.length%8:Nat):Int) !=0)=false:=by simp;omega
 obtain⟨N,hN⟩:∃ N,b.length=8*N:=⟨b.length/8,an⟩
 have rS:(mE b).length=N:=by simp[mE];omega
 have z:∀ k,k<N->(mE b)[k]?=some (vJ b k):=fun k p=>by
  unfold mE;rw[aaG,abp an];rfl
 obtain⟨R,F⟩:∃ R,R=nH b:=⟨_,rfl⟩
 have H:∀ k,k<N->jw (vJ b k)=false->R=none:=fun k p h=>by
  rw[F];refine if_neg fun hc=>?_;have:=aaD.1 hc.2.2 _ (aaf (z k p));rw[h] at this;cases this
 have cQ:(∀ k,k<N->jw (vJ b k)=true)->R=some (mE b):=fun h=>by
  rw[F];refine if_pos ⟨an,u,aaD.2 fun x a=>?_⟩;obtain⟨k,p⟩:=aat a
  have I:k<N:=by have:=(aae.1 p).1;omega
  rw[z k I] at p;cases p;exact h k I
 rw[<-F];obtain⟨E,J⟩:∃ E:V->Prop,∀ r,E r↔∃ e:Int,r=.bc [FL (R.getD []),.int .i64 e]/\((e==0)=R.isSome):=⟨_,fun _=>Iff.rfl⟩
 suffices hs:∃ r,FP G 429 [.vs (aj .u8 b) .no] r/\E r by
  obtain⟨r,L,M⟩:=hs;obtain⟨e,rfl,O⟩:=(J r).1 M;exact⟨e,L,O⟩
 refine Hv jE.aeC (aab rfl) ?_;obtain⟨B,q⟩:∃ B:Nat->List Nat,∀ k,B k=b.drop (8*k):=⟨_,fun _=>rfl⟩;obtain⟨D,hD⟩:∃ D,D=mE b:=⟨_,rfl⟩;rw[<-hD] at rS z cQ
 have IY:B 0=b:=by rw[q];rfl
 have MN:∀ k,(B k).length=8*N-8*k:=fun k=>by rw[q,aax,hN]
 have Qx:oE (b.length:Int) 8=0:=by rw[Z,u];rfl
 rw[<-IY] at t Qx;rw[show aj .u8 b=aj .u8 (B 0) by rw[IY]];simp[t,Qx];refine aP N (fun k=>[(0,.vs (aj .u8 (B k)) .no),(4,.vs (IL (D.take k)) (.own 0))]) (fun k=>[some (.zone k)]) (fun k=>∀ j<k,jw (vJ b j)=true) ?_ ?_
 ·simp[aq,ai]
 intro k I jJ;have iI:=MN k
 by_cases P:k<N
 ·obtain⟨g,l,m,n,a4,a5,a6,a7,r,o⟩:=zBr (B k) an;have s:∀ x∈B k,x<256:=fun x a=>f x (aam (by rw[q] at a;exact a))
  have Q:g<256/\l<256/\m<256/\n<256/\a4<256/\a5<256/\a6<256/\a7<256:=by rw[o] at s;simp only[aaZ,forall_eq_or_imp] at s;obtain⟨S,L,M,O,h4,h5,h6,h7,_⟩:=s;exact⟨S,L,M,O,h4,h5,h6,h7⟩
  obtain⟨m0,m1,m2,m3,m4,m5,m6,m7⟩:=Q
  have gd:∀ i,b.getD (8*k+i) 0=(B k).getD i 0:=fun i=>by
   rw[q,aar,aar,aa0]
  have v:=gd 0;simp only[abt] at v;obtain⟨x,a⟩:∃ x,x=vJ b k:=⟨_,rfl⟩;obtain⟨K,hK⟩:∃ K,K=a4+256*a5+65536*a6+16777216*a7:=⟨_,rfl⟩
  have eH:x=⟨(g+256*l:Nat),m,n,K⟩:=by rw[a,vJ,gd,gd,gd,gd,gd,gd,gd,v,o,hK];rfl
  have wL:K<4294967296:=an
  have b0:(B k)[0]?=some g:=by rw[o];rfl
  have b1:(B k)[1]?=some l:=by rw[o];rfl
  have b2:(B k)[2]?=some m:=by rw[o];rfl
  have b3:(B k)[3]?=some n:=by rw[o];rfl
  have bk:∀ i,i<4->(B k)[4+i]?=some (K/256^i%256):=by
   intro i hi;rw[o]
   have:i=0\/i=1\/i=2\/i=3:=an
   rcases this with rfl|rfl|rfl|rfl<;>simp<;>omega
  have f0:=(aae.1 b0).2;have f1:=(aae.1 b1).2;have f2:=(aae.1 b2).2;have f3:=(aae.1 b3).2;have lh:(0<(B k).length)=True:=eq_true an
  have w:(B k).drop 8=B (k+1):=by rw[q,q,abI];congr 1
  have c:∀ b:Nat,b<256->fB .i64 (b:Int)=(b:Int):=fun b f=>IntWalk.i64_in _ ⟨an,an⟩;have XO:∀ b:Nat,b<256->fB .u32 (b:Int)=(b:Int):=fun b f=>IntWalk.u32_in _ ⟨an,an⟩;have c0:=c g m0;have C:=c l m1;have u:=c m m2;have c3:=c n m3;have ho:=XN m0 m1;simp(disch:=omega)[lh,b0,b1,b2,b3,f0,f1,f2,f3,jX,c0,C,u,c3,ho,-aaa,-aaz];have wR:=JD (G:=G) x
  have HE:x.cs=[.int .i64 ((g+256*l:Nat):Int),.int .i64 (m:Int),.int .i64 (n:Int),.int .u32 (K:Int)]:=by rw[af.cs,eH]
  simp only[IV,HE] at wR;obtain⟨y,A⟩:∃ y:Nat->Nat,∀ i,y i=K%256^i:=⟨_,fun _=>rfl⟩
  have XP:y 0=0:=by rw[A];simp[abS]
  have Qy:y 4=K:=by rw[A];exact aay wL
  refine aP 4 (fun i=>[(0,.vs (aj .u8 (B k)) .no),(4,.vs (IL (D.take k)) (.own 0)),(5,.ptr 1 0),(40,.int .i64 i)]) (fun i=>[some (.zone k),some (.cells [.int .i64 (g+256*l:Nat),.int .i64 m,.int .i64 n,.int .u32 (y i)])]) (fun _=>True) ?_ ?_
  ·simp[aq,ai,XP,f0,f1,f2,f3,c0,C,u,c3,ho,-aaa,-aaz]
  intro i hi _
  by_cases T:i<4
  ·have f:=bk i T;have s:K/256^i%256<256:=aaY _ (by decide);have U:=zvo K i T wL;rw[<-A,<-A] at U;obtain⟨W,Cg⟩:∃ W,W=K/256^i%256:=⟨_,rfl⟩;rw[<-Cg] at f s U
   have m8:eI .i64 8 (i:Int)=((8*i:Nat):Int):=by unfold eI;rw[show((8:Int)*(i:Int))=((8*i:Nat):Int) by omega];exact IntWalk.i64_in _ ⟨an,an⟩
   have X:aD .i64 4 (i:Int)=((4+i:Nat):Int):=by rw[dW]<;>omega
   have cb:=XO W s;have fb:=(aae.1 f).2;have XQ:(((8*i:Nat):Int)<0)=False:=eq_false an;have G5:((i:Int)<4)=True:=eq_true an;simp(disch:=omega)[G5,XQ,f,fb,jX,m8,X,cb,U,aq,ai,bE,T,-aaa,-aaz]
  ·have:i=4:=an
   subst this;simp(disch:=omega)[Qy,aq,ai,-aaa,-aaz];refine ax wR ?_
   cases Qz:jw x with
   | false =>
    have d:=H k P (by rw[<-a];exact Qz);have Y:E (.bc [.vs [] .no,.int .i64 2]):=(J _).2 ⟨2,by rw[d];rfl,by rw[d];rfl⟩
    simpa[aq,ai] using Y
   | true =>
   have jl:((k+1)*32<=140737488355328)=True:=eq_true an
   have gC:(D.take k).length=k:=by rw[aaj];omega
   have dT:IL (D.take k)++[[.int .i64 ((g+256*l:Nat):Int),.int .i64 (m:Int),.int .i64 (n:Int),.int .u32 (K:Int)]]=IL (D.take (k+1)):=by rw[<-HE,NQ,aao,z k P,<-a];rfl
   have h8:((8:Int)<=((B k).length:Int))=True:=eq_true an;have oh:(B (k+1)).take ((B k).length-8)=B (k+1):=aaq (by rw[<-w,aax];omega);simp(disch:=omega)[aq,ai,jl,gC,dT,h8,AT,xI,w,oh,P,-aaa,-aaz];intro j hj
   rcases aaP (Nat.le_of_lt_succ hj) with h|h
   ·rw[h,<-a];exact Qz
   ·exact jJ j h
 ·have:k=N:=an
  subst this;have S:(0<(B k).length)=False:=eq_false an;have hr:=cQ jJ;have eA:D.take k=D:=aaq an;have Y:E (.bc [.vs (IL D) .no,.int .i64 0]):=(J _).2 ⟨0,by rw[hr];rfl,by rw[hr];rfl⟩;simp(disch:=omega)[S,aq,ai,eA];exact Y
def MO(r:Nat):Nat:=(r/2) ^^^ (3988292384*(r%2))
def zAr{r:Nat}(h:r<4294967296):MO r<4294967296:=by unfold MO;exact abf (n:=32) an an
def zAs{r:Nat}(h:r<4294967296):tL .u32 (jh .u32 (r:Int) 1) (eI .u32 3988292384 (jg .u32 (r:Int) 1))=(MO r:Nat):=by
 have c:jg .u32 (r:Int) 1=((r%2:Nat):Int):=by have:=Ln (a:=r) (b:=1) h (by decide);rw[show((1:Nat):Int)=1 from rfl] at this;rw[this,Nat.and_one_is_mod]
 have d:jh .u32 (r:Int) 1=((r/2:Nat):Int):=by have:=yT (a:=r) (j:=1) (by decide);simpa using this
 have e:eI .u32 3988292384 ((r%2:Nat):Int)=((3988292384*(r%2):Nat):Int):=by unfold eI;rw[show(3988292384:Int)*((r%2:Nat):Int)=((3988292384*(r%2):Nat):Int) by omega];exact IntWalk.u32_in _ ⟨an,an⟩
 rw[c,d,e,Va an an];rfl
def G6:Nat->Nat->Nat
 | 0,r=>r
 | n+1,r=>MO (G6 n r)
def XR{r:Nat}(h:r<4294967296):∀ n,G6 n r<4294967296
 | 0=>h
 | n+1=>zAr (XR h n)
def MP(r x:Nat):Nat:=G6 8 (r ^^^ x)
def MQ(b:List Nat):Nat:=b.foldl MP 4294967295
def Ae(b:List Nat):Nat:=4294967295-MQ b
def Eh(b:List Nat):List Nat:=b++fE (Ae b) 4
def zvq:∀(b:List Nat) (r:Nat),r<4294967296->(∀ x∈b,x<256)->b.foldl MP r<4294967296
 | [],r,h,_=>h
 | x::b,r,h,a=>zvq b _ (XR (abf (n:=32) h (by have:=a x ir;omega)) 8) (fun y c=>a y (by simp[c]))
def XS{b:List Nat}(a:∀ x∈b,x<256):∀ x∈Eh b,x<256:=by
 intro x c
 rcases aah.1 c with h|h
 ·exact a x h
 ·simp only[fE,aag,List.mem_range] at h;obtain⟨j,_,rfl⟩:=h;exact aaY _ (by decide)
def zD8[bq G](b:List Nat)(p:∀ x∈b,x<256)(I:b.length<=1000000):FP G 472 [.vs (aj .u8 b) .no] (.int .u32 (Ae b:Nat)):=by
 refine bF bq.aeU (aab rfl) ?_;obtain⟨R,d⟩:∃ R:Nat->Nat,∀ i,R i=(b.take i).foldl MP 4294967295:=⟨_,fun _=>rfl⟩
 have j:R 0=4294967295:=by rw[d];rfl
 have v:MQ b=R b.length:=by rw[d,aau];rfl
 have l:∀ i,R i<4294967296:=fun i=>by rw[d];exact zvq _ _ (by decide) (fun x c=>p x (aai c))
 have w:∀ i x,b[i]?=some x->R (i+1)=MP (R i) x:=fun i x h=>by rw[d,d,aao,h,abg,abw];rfl
 rw[Ae,v];simp;refine aP b.length (fun i=>[(3,.int .u32 (R i:Nat)),(6,.vs (aj .u8 b) .no),(7,.int .i64 b.length),(8,.int .i64 i)]) (fun _=>[]) (fun _=>True) ?_ ?_
 ·simp[aq,ai,j]
 intro i hi _
 rcases aaP hi with f|s
 ·subst f
  have y:y9 .u32 (R b.length:Int)=((4294967295-R b.length:Nat):Int):=by
   have:=l b.length;unfold y9;rw[show(if IntKind.u32.signed=true then(-1:Int) else IntKind.u32.max)=((4294967295:Nat):Int) from rfl,qq,qq,abC,aaO,aaO];simp only[IntKind.bits];rw[aay (show 4294967295<2^32 by decide),aay (show R b.length<2^32 from this)]
   have e:4294967295 ^^^ R b.length=4294967295-R b.length:=by
    have q:(BitVec.allOnes 32 ^^^ BitVec.ofNat 32 (R b.length)).toNat=2^32-1-R b.length:=by rw[BitVec.allOnes_xor,BitVec.toNat_not,aaO,aay (show R b.length<2^32 from this)]
    rw[abC,BitVec.toNat_allOnes,aaO,aay (show R b.length<2^32 from this)] at q;exact q
   rw[e];exact uB an
  simp[y,aq]
 ·obtain⟨x,c⟩:∃ x,b[i]?=some x:=⟨_,aac s⟩;obtain⟨_,t⟩:=aae.1 c;have J:=p x (aaf c);have z:((i:Int)<(b.length:Int))=True:=eq_true an
  have A:aD .i64 (i:Int) 1=((i+1:Nat):Int):=by rw[dW]<;>omega
  have u:fB .u32 (x:Int)=(x:Int):=IntWalk.u32_in _ ⟨an,an⟩;have m:=Va (a:=R i) (b:=x) (l i) an;have g:=w i x c;obtain⟨r,o⟩:∃ r,r=R i ^^^ x:=⟨_,rfl⟩
  have B:r<4294967296:=by rw[o];exact abf (n:=32) (l i) an
  rw[<-o] at m;rw[MP,<-o] at g;simp(disch:=omega)[z,c,t,jX,u,m];refine aP 8 (fun k=>[(3,.int .u32 (G6 k r:Nat)),(6,.vs (aj .u8 b) .no),(7,.int .i64 b.length),(8,.int .i64 i),(16,.int .i64 k)]) (fun _=>[]) (fun _=>True) ?_ ?_
  ·simp[aq,ai,m,t,u,G6]
  intro k C _
  rcases aaP C with f|D
  ·subst f;simp[aq,ai,A,s,g,-aaa]
  ·have E:((k:Int)<8)=True:=eq_true an
   have F:aD .i64 (k:Int) 1=((k+1:Nat):Int):=by rw[dW]<;>omega
   have H:=zAs (XR B k);have f:G6 (k+1) r=MO (G6 k r):=rfl;simp[E,F,H,f,D,aq,ai,-aaa]
def zvr[bq G](b:List Nat)(p:∀ x∈b,x<256)(q:b.length<=1000000):FP G 474 [.vs (aj .u8 b) .no] (.vs (aj .u8 (Eh b)) .no):=by
 refine bF bq.aeW (aab rfl) ?_;have h:=zD8 (G:=G) b p q;obtain⟨c,g⟩:∃ c,c=Ae b:=⟨_,rfl⟩
 have s:c<4294967296:=by rw[g,Ae];omega
 have i:jh .u32 (c:Int) 8=((c/256:Nat):Int):=by have:=yT (a:=c) (j:=8) (by decide);simpa using this
 have d:jh .u32 (c:Int) 16=((c/65536:Nat):Int):=by have:=yT (a:=c) (j:=16) (by decide);simpa using this
 have e:jh .u32 (c:Int) 24=((c/16777216:Nat):Int):=by have:=yT (a:=c) (j:=24) (by decide);simpa using this
 have k:(b.length<=140737488355328)=True:=eq_true an;have l:(b.length+4<=140737488355328)=True:=eq_true an
 have m:(∀ f∈aj .u8 b,f.length=1)=True:=by simp only[eq_iff_iff,iff_true];intro f n;simp only[aj,aag] at n;obtain⟨_,_,rfl⟩:=n;rfl
 have r:aj .u8 (Eh b)=aj .u8 b++[[.int .u8 ((c%256:Nat):Int)],[.int .u8 ((c/256%256:Nat):Int)],[.int .u8 ((c/65536%256:Nat):Int)],[.int .u8 ((c/16777216%256:Nat):Int)]]:=by simp[Eh,<-g,fE,aba,aba.loop,aj]
 rw[r];rw[<-g] at h;simp;refine ax h ?_
 by_cases o:aj .u8 b=[]
 ·simp[o,aq,i,d,e,Je,k,l,m,-aaV,-aaH];omega
 ·simp[o,aq,i,d,e,Je,k,l,m,-aaV,-aaH];omega
def mF(b:List Nat):List Nat×Nat:=if b.length<4 then([],9) else if Eh (b.take (b.length-4))=b then(b.take (b.length-4),0) else([],10)
def XT:∀{a b:List Nat},(∀ x∈a,x<256)->(∀ x∈b,x<256)->a.map aaT=b.map aaT->a=b
 | [],[],_,_,_=>rfl
 | [],_::_,_,_,h=>by simp at h
 | _::_,[],_,_,h=>by simp at h
 | x::a,y::b,d,f,h=>by
  simp only[aaS,List.cons.injEq] at h;have g:=d x ir;have i:=f y ir;have e:=congrArg UInt8.toNat h.1;simp only[abv] at e;rw[aay an,aay an] at e;rw[e,XT (fun z c=>d z (by simp[c])) (fun z c=>f z (by simp[c])) h.2]
def zCI[bq G](b:List Nat)(i:∀ x∈b,x<256)(y:b.length<=1000000):FP G 473 [.vs (aj .u8 b) .no] (.bc [.vs (aj .u8 (mF b).1) .no,.int .i64 ((mF b).2:Nat)]):=by
 refine bF bq.aeV (aab rfl) ?_;have n1:cM .i64 (b.length:Int) 4=(b.length:Int)-4:=oB an an;unfold mF
 by_cases m:b.length<4
 ·have a:((b.length:Int)-4<0)=True:=eq_true an;rw[if_pos m];simp[n1,a,aq,aj]
 rw[if_neg m];obtain⟨n,u⟩:∃ n,n=b.length-4:=⟨_,rfl⟩
 have v:(b.length:Int)-4=(n:Int):=an
 rw[v] at n1;rw[<-u];have j:∀ x∈b.take n,x<256:=fun x w=>i x (aai w);have k:=zvr (G:=G) (b.take n) j (by rw[aaj];omega);have o:=Jf _ (XS j);have l:=Jf _ i;have a:((n:Int)<0)=False:=eq_false an;have c:((n:Int)<=(b.length:Int))=True:=eq_true an;have d:((0:Int)<=(n:Int))=True:=eq_true an;have p:((b.take n).length<=140737488355328)=True:=eq_true (by rw[aaj];omega)
 have q:(b.take n).length=n:=by rw[aaj];omega
 have r:(n<=140737488355328)=True:=eq_true an
 have s:(∀ f∈aj .u8 (b.take n),f.length=1)=True:=by simp only[eq_iff_iff,iff_true];intro f t;simp only[aj,aag] at t;obtain⟨_,_,rfl⟩:=t;rfl
 by_cases e:Eh (b.take n)=b
 ·rw[if_pos e];rw[e] at k o;simp[n1,d,a,c,xI,aq];refine ax k ?_
  by_cases g:aj .u8 (b.take n)=[]
  ·simp[g,l,d,c,xI,p,r,q,s,aq]
  ·simp[g,l,d,c,xI,p,r,q,s,aq]
 ·rw[if_neg e]
  have g:((Eh (b.take n)).map aaT==b.map aaT)=false:=by rw[beq_eq_false_iff_ne];exact fun h=>e (XT (XS j) i h)
  simp[n1,d,a,c,xI,aq];refine ax k ?_;simp[o,l,g,show aj .u8 []=[] from rfl,aq]
def XV(b:List Nat):Nat:=b.getD 0 0+256*b.getD 1 0+65536*b.getD 2 0+16777216*b.getD 3 0
def sm(b:List Nat):Option (TR×List Nat) :=
 if b.length<6 then none
 else if(b.drop 6).length<8*b.getD 4 0+8*b.getD 5 0 then none
 else match nH ((b.drop 6).take (8*b.getD 4 0)),nH (((b.drop 6).drop (8*b.getD 4 0)).take (8*b.getD 5 0)) with
  | some f,some g=>some (⟨f,g,XV b⟩,(b.drop 6).drop (8*b.getD 4 0+8*b.getD 5 0))
  | _,_=>none
def zvs{b q:List Nat}{r:TR}(c:∀ x∈b,x<256)(h:sm b=some (r,q)):r.ok/\(∀ x∈q,x<256)/\q.length<b.length:=by
 unfold sm at h;split at h
 ·cases h
 rename_i n;split at h
 ·cases h
 have hd:∀ x∈b.drop 6,x<256:=fun x a=>c x (aam a);split at h
 ·rename_i f g d j;cases h;obtain⟨_,o,k,p⟩:=zrz (fun x a=>hd x (aai a)) d;obtain⟨_,s,l,t⟩:=zrz (fun x a=>hd x (aam (aai a))) j
  have e:∀ i,b.getD i 0<256:=fun i=>by
   rw[aar]
   cases h:b[i]? with
   | none=>simp
   | some x=>exact c x (aaf h)
  have u:=e 0;have v:=e 1;have w:=e 2;have y:=e 3
  have m:XV b<4294967296:=by unfold XV;omega
  refine⟨⟨by simp only[maxLen];omega,by simp only[maxLen];omega,k,l,m⟩,fun x a=>hd x (aam a),by simp;omega⟩
 ·cases h
def six(l:List Nat)(h:6<=l.length):∃ a b c d e f r,l=a::b::c::d::e::f::r:=by
 match l,h with
 | a::b::c::d::e::f::r,_=>exact⟨a,b,c,d,e,f,r,rfl⟩
def zyo[aB G][jE G][bq G](b:List Nat)(J:∀ x∈b,x<256)(hl:b.length<=1000000) :
  ∃ r q,FP G 475 [.vs (aj .u8 b) .no] (.bc [TV r,.vs (aj .u8 q) .no,.bool (sm b).isSome])/\∀ r' j,sm b=some (r',j)->r=r'/\q=j:=by
 obtain⟨R,L⟩:∃ R,R=sm b:=⟨_,rfl⟩;rw[<-L];obtain⟨E,z⟩:∃ E:V->Prop,∀ v,E v↔∃ r q,v=.bc [TV r,.vs (aj .u8 q) .no,.bool R.isSome]/\∀ r' j,R=some (r',j)->r=r'/\q=j:=⟨_,fun _=>Iff.rfl⟩
 suffices hs:∃ r,FP G 475 [.vs (aj .u8 b) .no] r/\E r by
  obtain⟨r,a,A⟩:=hs;obtain⟨x,q,rfl,h3⟩:=(z r).1 A;exact⟨x,q,a,h3⟩
 refine Hv bq.aeX (aab rfl) ?_
 by_cases c6:b.length<6
 ·have s:R=none:=by rw[L];exact if_pos c6
  have M:((b.length:Int)<6)=True:=eq_true an;have k:E (.bc [.agg [.vs [] .no,.vs [] .no,.int .u32 0],.vs [] .no,.bool false]):=(z _).2 ⟨⟨[],[],0⟩,[],by rw[s];rfl,by rw[s];intro _ _ h;cases h⟩;simp[M,aq];exact k
 have M:((b.length:Int)<6)=False:=eq_false an;obtain⟨a0,a1,a2,a3,B,C,c,d⟩:=six b an;have l:=J;rw[d] at l;simp only[aaZ,forall_eq_or_imp] at l;obtain⟨m0,m1,m2,m3,m4,m5,hc⟩:=l;obtain⟨n,s⟩:∃ n,n=8*B:=⟨_,rfl⟩;obtain⟨m,BJ⟩:∃ m,m=8*C:=⟨_,rfl⟩;obtain⟨K,hK⟩:∃ K,K=a0+256*a1+65536*a2+16777216*a3:=⟨_,rfl⟩
 have PS:K<4294967296:=an
 have o:R=if c.length<n+m then none else match nH (c.take n),nH ((c.drop n).take m) with
   | some f,some g=>some (⟨f,g,K⟩,c.drop (n+m))
   | _,_=>none:=by
  rw[L,s,BJ,hK,sm,if_neg c6,d];rfl
 have jI:c.length+6=b.length:=by rw[d];simp
 have N:b[4]?=some B:=by rw[d];rfl
 have O:b[5]?=some C:=by rw[d];rfl
 have bk:∀ i,i<4->b[i]?=some (K/256^i%256):=by
  intro i hi;rw[d]
  have:i=0\/i=1\/i=2\/i=3:=an
  rcases this with rfl|rfl|rfl|rfl<;>simp<;>omega
 have f4:=(aae.1 N).2;have f5:=(aae.1 O).2
 have t:b.drop 6=c:=by rw[d];rfl
 obtain⟨u,F⟩:∃ u:Nat->Nat,∀ i,u i=K%256^i:=⟨_,fun _=>rfl⟩
 have XP:u 0=0:=by rw[F];simp[abS]
 have Qy:u 4=K:=by rw[F];exact aay PS
 have w:∀ x:Nat,x<256->fB .i64 (x:Int)=(x:Int):=fun b J=>IntWalk.i64_in _ ⟨an,an⟩;have XO:∀ x:Nat,x<256->fB .u32 (x:Int)=(x:Int):=fun b J=>IntWalk.u32_in _ ⟨an,an⟩
 have P:∀ i:Nat,i<256->eI .i64 8 (i:Int)=((8*i:Nat):Int):=fun i hi=>by
  unfold eI;rw[show((8:Int)*(i:Int))=((8*i:Nat):Int) by omega];exact IntWalk.i64_in _ ⟨an,an⟩
 have e4:=w B m4;have e5:=w C m5;have Q:=P B m4;have S:=P C m5;rw[<-s] at Q;rw[<-BJ] at S;simp[M];refine aP 4 (fun i=>[(0,.vs (aj .u8 b) .no),(2,.ptr 0 0),(5,.ptr 1 0),(15,.int .i64 i)]) (fun i=>[some (.cells [.vs [] .full,.vs [] .full,.int .u32 0]),some (.cells [.vs [] .full,.vs [] .full,.int .u32 (u i)])]) (fun _=>True) ?_ ?_
 ·simp[aq,ai,aw.cl,aX,V.cl,Tk.cl,XP]
 intro i hi _
 by_cases T:i<4
 ·have U:=bk i T;have l:=aaY (K/256^i) (show 0<256 by decide);have W:=zvo K i T PS;rw[<-F,<-F] at W;obtain⟨X,Cg⟩:∃ X,X=K/256^i%256:=⟨_,rfl⟩;rw[<-Cg] at U l W;have cb:=XO X l;have fb:=(aae.1 U).2;have XQ:(((8*i:Nat):Int)<0)=False:=eq_false an;have G5:((i:Int)<4)=True:=eq_true an
  have tP:i<b.length:=an
  have mi:=P i an;simp(disch:=omega)[G5,XQ,U,fb,tP,jX,mi,cb,W,aq,ai,aw.cl,aX,V.cl,Tk.cl,bE,T,-aaa,-aaz]
 have:i=4:=an
 subst this;have y:((6:Int)<=(b.length:Int))=True:=eq_true an;have vo:c.take (b.length-6)=c:=aaq an
 have H:aD .i64 (n:Int) (m:Int)=((n+m:Nat):Int):=by rw[dW]<;>omega
 have l4:4<b.length:=an
 have l5:5<b.length:=an
 by_cases Oz:c.length<n+m
 ·have vf:R=none:=by rw[o,if_pos Oz]
  have Y:((c.length:Int)<((n+m:Nat):Int))=True:=eq_true an;have k:E (.bc [.agg [.vs [] .no,.vs [] .no,.int .u32 0],.vs [] .no,.bool false]):=(z _).2 ⟨⟨[],[],0⟩,[],by rw[vf];rfl,by rw[vf];intro _ _ h;cases h⟩;simp(disch:=omega)[Qy,N,O,f4,f5,l4,l5,jX,e4,e5,Q,S,y,AT,xI,t,vo,H,Y,aq,ai,-aaa,-aaz];exact k
 rw[if_neg Oz] at o;have Y:((c.length:Int)<((n+m:Nat):Int))=False:=eq_false an;obtain⟨x1,p1,q1⟩:=zpG (G:=G) (c.take n) (fun x Z=>hc x (aai Z)) (by rw[aaj];omega);obtain⟨x2,p2,q2⟩:=zpG (G:=G) ((c.drop n).take m) (fun x Z=>hc x (aam (aai Z))) (by rw[aaj,aax];omega);obtain⟨e,Ej⟩:∃ D,D=nH (c.take n):=⟨_,rfl⟩;obtain⟨p,MU⟩:∃ D,D=nH ((c.drop n).take m):=⟨_,rfl⟩;rw[<-Ej] at p1 q1 o;rw[<-MU] at p2 q2 o
 have r0:((0:Int)<=(n:Int))=True:=eq_true an;have r1:((n:Int)<=(c.length:Int))=True:=eq_true an;have r2:((n:Int)<=((n+m:Nat):Int))=True:=eq_true an;have I:(((n+m:Nat):Int)<=(c.length:Int))=True:=eq_true an
 have r4:n+m-n=m:=an
 have r5:(c.drop (n+m)).take (c.length-(n+m))=c.drop (n+m):=aaq (by rw[aax];omega)
 have y0:R.isSome=(e.isSome&&p.isSome):=by rw[o];cases e<;>cases p<;>rfl
 have k:E (.bc [.agg [.vs (IL (e.getD [])) .no,.vs (IL (p.getD [])) .no,.int .u32 K],.vs (aj .u8 (c.drop (n+m))) .no,.bool (e.isSome&&p.isSome)]):=by
  refine(z _).2 ⟨⟨e.getD [],p.getD [],K⟩,c.drop (n+m),by rw[y0];rfl,?_⟩;intro r' j h;rw[o] at h
  cases a:e with
  | none=>rw[a] at h;cases h
  | some f =>
   cases A:p with
   | none=>rw[a,A] at h;cases h
   | some g=>rw[a,A] at h;cases h;exact⟨rfl,rfl⟩
 simp only[FL] at p1 p2;simp(disch:=omega)[Qy,N,O,f4,f5,l4,l5,jX,e4,e5,Q,S,y,AT,xI,t,vo,H,Y,r0,r1,r2,I,r4,aq,ai,-aaa,-aaz];refine ax p1 ?_;simp(disch:=omega)[AT,xI,H,r0,r1,r2,I,r4,aq,ai,-aaa,-aaz];refine ax p2 ?_;simp(disch:=omega)[AT,xI,H,r0,r1,r2,I,r4,r5,q1,q2,aq,ai,-aaa,-aaz]
 cases a:e.isSome<;>rw[a] at k<;>simp[q2,AT,I,r5]<;>simpa using k
def Ek:Nat->List Nat->List TR->Option (List TR×List Nat)
 | 0,b,t=>some (t,b)
 | n+1,b,t=>match sm b with
  | none=>none
  | some (r,q)=>Ek n q (t++[r])
def xY:List Nat:=[72,82,84,49]
def sn(b:List Nat):Option (List TR) :=
 if(mF b).2≠0\/(mF b).1.length<=4\/(mF b).1.take 4≠xY then none
 else match Ek ((mF b).1.getD 4 0) ((mF b).1.drop 5) [] with
  | some (t,q)=>if q=[]/\dD t=true then some t else none
  | none=>none
def zyp:∀(n:Nat) {b q:List Nat} {t u:List TR},(∀ x∈b,x<256)->(∀ r∈t,r.ok)->Ek n b t=some (u,q)->∀ r∈u,r.ok
 | 0,b,q,t,u,d,c,h=>by cases h;exact c
 | n+1,b,q,t,u,d,c,h=>by
  unfold Ek at h
  cases a:sm b with
  | none=>rw[a] at h;cases h
  | some x =>
   rw[a] at h;obtain⟨e,f,_⟩:=zvs d a
   exact zyp n f (fun r a=>by
    rcases aah.1 a with a|a
    ·exact c r a
    ·rw[aap.1 a];exact e) h
def zvt{b:List Nat}(a:∀ x∈b,x<256):∀ x∈(mF b).1,x<256:=by
 unfold mF;split
 ·simp
 ·split
  ·exact fun x c=>a x (aai c)
  ·simp
def zAt(b:List Nat):(mF b).1.length<=b.length:=by
 unfold mF;split
 ·simp
 ·split
  ·rw[aaj];omega
  ·simp
def zCJ{b:List Nat}{t:List TR}(a:∀ x∈b,x<256)(h:sn b=some t):dD t=true/\∀ r∈t,r.ok:=by
 unfold sn at h;split at h
 ·cases h
 ·split at h
  ·rename_i u q c;split at h
   ·rename_i d;cases h;exact⟨d.2,zyp _ (fun x e=>zvt a x (aam e)) ir c⟩
   ·cases h
  ·cases h
def zpJ[aB G][jE G][aA G][aL G][dU G][cI G][bq G](b:List Nat)(P:∀ x∈b,x<256)(hl:b.length<=1000000) :
  ∃ e:Int,FP G 476 [.vs (aj .u8 b) .no] (.bc [TF ((sn b).getD []),.int .i64 e])/\((e==0)=(sn b).isSome):=by
 obtain⟨R,a⟩:∃ R,R=sn b:=⟨_,rfl⟩;rw[<-a];obtain⟨E,J⟩:∃ E:V->Prop,∀ v,E v↔∃ e:Int,v=.bc [TF (R.getD []),.int .i64 e]/\((e==0)=R.isSome):=⟨_,fun _=>Iff.rfl⟩
 suffices hs:∃ r,FP G 476 [.vs (aj .u8 b) .no] r/\E r by
  obtain⟨r,h1,h2⟩:=hs;obtain⟨e,rfl,h3⟩:=(J r).1 h2;exact⟨e,h1,h3⟩
 have f:R=none->∀ e:Int,(e==0)=false->E (.bc [.vs [] .no,.int .i64 e]):=fun h e he=>(J _).2 ⟨e,by rw[h];rfl,by rw[h,he];rfl⟩;refine Hv bq.aeY (aab rfl) ?_;have Q:=zCI (G:=G) b P hl;have w:=zvt P;have jI:=zAt b;unfold sn at a;obtain⟨c,K⟩:∃ c,c=(mF b).1:=⟨_,rfl⟩;obtain⟨p,T⟩:∃ p,p=(mF b).2:=⟨_,rfl⟩;rw[<-K,<-T] at Q;rw[<-K] at w jI;rw[<-K,<-T] at a;simp;refine ax Q ?_
 by_cases U:p=0
 rotate_left
 ·have m:R=none:=by rw[a,if_pos (Or.inl U)]
  have g:((p:Int) !=0)=true:=by simp;omega
  have j:=f m p (by simp;omega);simp[g,aq];exact j
 have g:((p:Int) !=0)=false:=by simp;omega
 by_cases h4:c.length<=4
 ·have m:R=none:=by rw[a,if_pos (Or.inr (Or.inl h4))]
  have F:((c.length:Int)<=4)=True:=eq_true an;have j:=f m 2 rfl;simp[g,F,aq];exact j
 have F:((c.length:Int)<=4)=False:=eq_false an;have W:((4:Int)<=(c.length:Int))=True:=eq_true an;have X:=Jf (c.take 4) (fun x o=>w x (aai o))
 by_cases H:c.take 4=xY
 rotate_left
 ·have m:R=none:=by rw[a,if_pos (Or.inr (Or.inr H))]
  have A:((c.take 4).map aaT==[72,82,84,49])=false:=by rw[beq_eq_false_iff_ne];exact fun h=>H (XT (fun x o=>w x (aai o)) (by decide) h)
  rw[abM] at A;have j:=f m 2 rfl;simp[g,F,W,xI,X,A,aq];exact j
 have A:((c.take 4).map aaT==[72,82,84,49])=true:=by rw[H];rfl
 rw[abM] at A;rw[if_neg (by simp[U,H];omega)] at a;obtain⟨n,m⟩:∃ n,c[4]?=some n:=⟨_,aac an⟩;have fn:=(aae.1 m).2;have ha:=w n (aaf m);rw[aar,m,Option.getD_some] at a;have cn:fB .i64 (n:Int)=(n:Int):=IntWalk.i64_in _ ⟨an,an⟩;have h5:((5:Int)<=(c.length:Int))=True:=eq_true an
 have l4:4<c.length:=an
 have Y:(c.drop 5).take (c.length-5)=c.drop 5:=aaq (by rw[aax];omega);obtain⟨d,hd⟩:∃ d,d=c.drop 5:=⟨_,rfl⟩;rw[<-hd] at a Y
 have hf:(aj .u8 c).drop 5=aj .u8 d:=by rw[AT,<-hd]
 have L:∀ x∈d,x<256:=fun x o=>w x (aam (by rw[hd] at o;exact o))
 have rS:d.length<=1000000:=by rw[hd,aax];omega
 simp[g,F,W,xI,X,A,m,fn,l4,jX,cn,h5,AT,<-hd,Y,aq];obtain⟨M,B⟩:∃ M,M=Ek n d []:=⟨_,rfl⟩;rw[<-B] at a
 refine uW (S:=Nat×List Nat×List TR) (fun s=>n-s.1) (fun s=>[(0,.vs (aj .u8 s.2.1) .no),(5,.vs (TL s.2.2) (.own 0)),(33,.int .i64 n),(34,.int .i64 (s.1:Nat))]) (fun s=>[some (.zone s.2.2.length)])
  (fun s=>s.1<=n/\s.2.2.length=s.1/\(∀ x∈s.2.1,x<256)/\s.2.1.length<=1000000/\(∀ r∈s.2.2,r.ok)/\Ek (n-s.1) s.2.1 s.2.2=M) (0,d,[]) ?_ ?_
 ·refine⟨⟨aa4 _,rfl,L,rS,ir,B.symm⟩,?_,?_⟩
  ·simp[aq,TL]
  ·simp[ai]
 rintro⟨i,x,t⟩ ⟨p1,p2,p3,p4,N,l⟩;simp only at p1 p2 p3 p4 N l |-
 by_cases ar:i<n
 ·have u:((i:Int)<(n:Int))=True:=eq_true an;obtain⟨k,hk⟩:∃ k,n-i=k+1:=⟨n-i-1,an⟩;obtain⟨r,q,C,Z⟩:=zyo (G:=G) x p3 p4;rw[hk] at l;unfold Ek at l;simp only[TV,TR.cs] at C
  cases O:sm x with
  | none =>
   rw[O] at l C;simp only at l;rw[<-l] at a;have j:=f a 2 rfl;simp[u,aq];refine ax C ?_;simp[aq]
   exact j
  | some y =>
   rw[O] at l C Z;obtain⟨y1,y2⟩:=y;obtain⟨e1,e2⟩:=Z y1 y2 rfl;subst e1;subst e2;obtain⟨o1,o2,o3⟩:=zvs p3 O;simp only at l;have jl:((t.length+1)*56<=140737488355328)=True:=eq_true an;have cY:=MJ t;have dT:TL t++[r.cs]=TL (t++[r]):=Qu t r
   have a1:aD .i64 (i:Int) 1=((i+1:Nat):Int):=by rw[dW]<;>omega
   simp only[TR.cs] at dT;simp[u,aq];refine ax C ?_;simp[jl,cY,dT,a1,aq,-aaa];refine⟨(i+1,q,t++[r]),by simp only;omega,⟨by simp only;omega,by simp;omega,o2,by simp only;omega,?_,by simp only[show n-(i+1)=k by omega];exact l⟩,?_,?_⟩
   ·intro z hz
    rcases aah.1 hz with hz|hz
    ·exact N z hz
    ·rw[aap.1 hz];exact o1
   ·simp[aq]
   ·simp[ai,aw.cl,aX,V.cl,Tk.cl]
 ·have iT:i=n:=an
  subst iT;have u:((i:Int)<(i:Int))=False:=eq_false an;rw[aa1] at l;rw[<-l] at a;simp only[Ek] at a;have D:=MF (G:=G) t an N;simp only[TF] at D
  by_cases o:x=[]
  ·subst o
   cases I:dD t with
   | true =>
    rw[I] at D;simp only[I,and_self,if_true] at a;have j:E (.bc [.vs (TL t) .no,.int .i64 0]):=(J _).2 ⟨0,by rw[a];rfl,by rw[a];rfl⟩;simp[u,aq,aj];refine ax D ?_;simp[aq]
    exact j
   | false =>
    rw[I] at D;simp only[I,and_false,if_false,Bool.false_eq_true] at a;have j:=f a 2 rfl;simp[u,aq,aj];refine ax D ?_;simp[aq];exact j
  ·have hp:=aaL.2 o;have gY:((0:Int)<(x.length:Int))=True:=eq_true an;have UF:0<x.length:=hp;simp only[o,false_and,if_false] at a;have j:=f a 2 rfl;simp[u,gY,UF,aq];exact j
def QB(t:List TR):List Nat:=xY++[t.length%256]++t.flatMap TR.rD
def zAu(t:List TR):∀ x∈QB t,x<256:=by
 intro x a
 rcases aah.1 a with a|a
 ·rcases aah.1 a with a|a
  ·have:∀ y∈xY,y<256:=by decide
   exact this x a
  ·rw[aap.1 a];exact aaY _ (by decide)
 ·simp only[abD] at a;obtain⟨r,_,b⟩:=a;exact QC r x b
def Af(t:List TR):List Nat:=Eh (QB t)
def ztw(r:TR):r.rD.length=6+8*r.fr.length+8*r.to.length:=by simp only[TR.rD,aaw,El];simp[fE]
def zm2:∀{l:List Nat},(∀ b∈l,b<256)->pH (l.map aaT)=aj .u8 l
 | [],_=>rfl
 | b::l,h=>by
  have a:=zm2 (l:=l) fun c d=>h c (by simp[d]);have f:=h b ir
  have e:(aaT b).toNat=b:=by rw[abv];omega
  simp only[pH,aj,aaS,e] at a |-;rw[a]
def zpK[aB G][aA G][aL G][dU G][cI G][bq G](t:List TR)(g:dD t=true)(n:∀ r∈t,r.ok):FP G 477 [TF t] (.bc [.vs (aj .u8 (Af t)) .no,.int .i64 0]):=by
 refine bF bq.aeZ (aab rfl) ?_;have A:t.length<=64:=(ME g).2;have k:=MF (G:=G) t an n;rw[g] at k
 have o:∀ r∈t,r.may=true:=fun r b=>by
  simp only[dD,aak] at g;exact aaD.1 g.1.1 r b
 obtain⟨T,c⟩:∃ T:Nat->List Nat,∀ j,T j=xY++[t.length%256]++(t.take j).flatMap TR.rD:=⟨_,fun _=>rfl⟩
 have p:T 0=[72,82,84,49,t.length%256]:=by rw[c];rfl
 have B:QB t=T t.length:=by rw[c,aau];rfl
 have q:∀ i r,t[i]?=some r->T (i+1)=T i++r.rD:=fun i r h=>by rw[c,c,aao,h,abg,List.flatMap_append];simp
 have s:∀ r∈t,r.rD.length<=600:=fun r b=>by
  have:=G4 (o r b);rw[ztw];omega
 have u:∀ j,j<=t.length->(T j).length<=5+600*j:=by
  intro j
  induction j with
  | zero=>intro _;rw[p];simp
  | succ j C =>
   intro R;have d:t[j]?=some t[j]:=aac an;have:=C an;have:=s t[j] (abj _);rw[q j _ d,aaw];omega
 have D:∀ j,∀ x∈T j,x<256:=fun j x a=>by
  rw[c] at a
  rcases aah.1 a with a|a
  ·rcases aah.1 a with a|a
   ·have:∀ y∈xY,y<256:=by decide
    exact this x a
   ·rw[aap.1 a];exact aaY _ (by decide)
  ·simp only[abD] at a;obtain⟨r,_,b⟩:=a;exact QC r x b
 have E:=zvr (G:=G) (T t.length) (D _) (by have:=u t.length (aaA _);omega);rw[Af,B];have F:=Je t.length;simp only[TF] at k;have H:nS 1 4 [V.int .u8 72,.int .u8 82,.int .u8 84,.int .u8 49]=[[V.int .u8 72],[V.int .u8 82],[V.int .u8 84],[V.int .u8 49]]:=rfl;simp[TF];refine ax k ?_;simp[F,H,aq,-aaH];refine aP t.length (fun i=>[(4,.vs (aj .u8 (T i)) (.own 1)),(17,.vs (TL t) .no),(18,.int .i64 t.length),(19,.int .i64 i)]) (fun i=>[some (.zone 1),some (.zone (T i).length)]) (fun _=>True) ?_ ?_
 ·simp[aq,ai,aw.cl,aX,V.cl,Tk.cl,p,aj]
 intro i hi _
 rcases aaP hi with I|v
 ·subst I;simp[aq];refine ax E ?_;simp
 ·obtain⟨r,b⟩:∃ r,t[i]?=some r:=⟨_,aac v⟩;have l:=aaf b;have d:=G3 b;have w:=(aae.1 d).2;have J:((i:Int)<(t.length:Int))=True:=eq_true an;have m:=(MH (G:=G) r (n r l) (o r l) [] XC).fp;rw[zyI] at m
  have K:aD .i64 (i:Int) 1=((i+1:Nat):Int):=by rw[dW]<;>omega
  have e:=q i r b;have S:=u i hi;have U:=s r l;have L:((T i).length+r.rD.length<=140737488355328)=True:=eq_true an;have M:=zm2 (QC r)
  have N:aj .u8 r.rD≠[]:=by intro h;have:=congrArg aby h;rw[zn0,ztw] at this;simp at this
  have O:aj .u8 (T i)++aj .u8 r.rD=aj .u8 (T (i+1)):=by rw[e];simp[aj]
  have P:(∀ f∈aj .u8 r.rD,f.length=1)=True:=by simp only[eq_iff_iff,iff_true];intro f z;simp only[aj,aag] at z;obtain⟨_,_,rfl⟩:=z;rfl
  have Q:(T (i+1)).length=(T i).length+r.rD.length:=by rw[e,aaw]
  simp only[TV,TR.cs] at m d w;simp[J,d,w,aq];refine ax m ?_;simp[M,N,P,O,Q,L,K,v,aq,ai,aw.cl,aX,V.cl,Tk.cl,-aaa]
def QD(f:List af)(a n:Nat):Nat:=gK (nd (f.drop (a+n))) 18
def Ag(f:List af)(a n:Nat):List af:=(f.drop a).take n
noncomputable def yA(w:List af)(t:List TR)(live:Nat)(tries:Int):Option (List af) :=
 match A9 t w live with
 | some x=>if bn x=true/\(dX w x live).1=0 then some x else ja w live tries
 | none=>ja w live tries
noncomputable def vK(f:List af)(t:List TR)(tries:Int)(p:Pc):Option (List af×List TR) :=
 (yA (Ag f p.1 p.2) t (QD f p.1 p.2) tries).map fun x=>(jD f p.1 p.2 x,(qj t ⟨Ag f p.1 p.2,x,QD f p.1 p.2⟩).1)
noncomputable def CK(f:List af)(t:List TR)(tries most:Int):Option (List af×List TR):=(rows f most f.length).findSome? (vK f t tries)
noncomputable def xZ(tries most:Int):Nat->List af->List TR->(List af×List TR)×Nat×Bool
 | 0,f,t=>((f,t),0,false)
 | k+1,f,t=>match CK f t tries most with
  | none=>((f,t),0,true)
  | some q=>((xZ tries most k q.1 q.2).1,(xZ tries most k q.1 q.2).2.1+1,(xZ tries most k q.1 q.2).2.2)
def zyq{t:List TR}{w x:List af}{live:Nat}(h:A9 t w live=some x):∃ r∈t,r.fr=w/\r.to=x/\r.may=true:=by
 unfold A9 at h;split at h
 ·rename_i a;rw[aaM] at h;obtain⟨r,b,e⟩:=h;have c:=List.find?_some b;have d:=List.mem_of_find?_eq_some b;simp only[aak,decide_eq_true_eq] at c;simp only[dD,aak] at a;exact⟨r,d,c.1,e,aaD.1 a.1.1 r d⟩
 ·cases h
def ztx{w x:List af}{t:List TR}{live:Nat}{tries:Int}(i:∀ y∈w,y.k<4294967296)(a:bn w=true)(j:∀ r∈t,∀ y∈r.to,y.k<4294967296)(h:yA w t live tries=some x) :
  bn x=true/\x.length<w.length/\(dX w x live).1=0/\∀ y∈x,y.k<4294967296:=by
 have l:w.length<=32:=by simp only[bn,aak,decide_eq_true_eq] at a;exact a.1
 have d:ja w live tries=some x->bn x=true/\x.length<w.length/\(dX w x live).1=0/\∀ y∈x,y.k<4294967296:=fun h=>by
  obtain⟨k,_,m,n,_⟩:=zAK h;have b:=aaf m;exact⟨zAL zuw b l,QE b,n,fun y c=>zpU i a y (QH b y c)⟩
 unfold yA at h;split at h
 ·rename_i y c;split at h
  ·rename_i e;cases h;obtain⟨r,o,p,f,g⟩:=zyq c;simp only[TR.may,aak,decide_eq_true_eq] at g;exact⟨e.1,by rw[<-p,<-f];exact g.1.2,e.2,by rw[<-f];exact j r o⟩
  ·exact d h
 ·exact d h
def qk(t:List TR):Prop:=∀ r∈t,(∀ y∈r.fr,y.k<4294967296)/\(∀ y∈r.to,y.k<4294967296)/\r.lv<4294967296
structure auO (f:List af) (t:List TR) (f':List af) (t':List TR):Prop where
 sound:dJ f'=true
 k:∀ y∈f',y.k<4294967296
 len:f'.length<f.length
 run:∀ d:Da,d.ok->(run d f' De).1=(run d f De).1/\((∀ y∈f,y.op≠60)->(run d f' De).2<=(run d f De).2)
 divs:(∀ y∈f,y.op≠60)->∀ y∈f',y.op≠60
 all:x6 f->x6 f'
 tk:qk t'
 dN:dD t=true->dD t'=true/\t.length<=t'.length/\t'.length<=t.length+1/\∀ r∈t',r∈t\/bn r.fr=true/\bn r.to=true/\(dX r.fr r.to r.lv).1=0
def zCK{t:List TR}{r:TR}(b:qk t)(c:∀ y∈r.fr,y.k<4294967296)(d:∀ y∈r.to,y.k<4294967296)(e:r.lv<4294967296):qk (qj t r).1:=by
 unfold qj;split
 ·split
  ·exact b
  ·split
   ·exact b
   ·intro x a;rw[aah,aaZ] at a
    rcases a with a|rfl|a
    ·exact b x (aai a)
    ·exact⟨c,d,e⟩
    ·exact b x (aam a)
 ·exact b
structure XX (f:List af) (t:List TR) (f':List af) (t':List TR):Prop where
 sound:dJ f'=true
 k:∀ y∈f',y.k<4294967296
 len:f'.length<f.length
 tk:qk t'
 dN:dD t=true->dD t'=true
def zty{f c:List af}{t d:List TR}{tries most:Int}(q:dJ f=true)(g:∀ y∈f,y.k<4294967296)(i:qk t)(h:CK f t tries most=some (c,d)):XX f t c d:=by
 obtain⟨p,s,b⟩:=List.exists_of_findSome?_eq_some h;obtain⟨C,j,D,E⟩:=SO s;simp only[qt,AG,tF,AF,aak,decide_eq_true_eq] at j;obtain⟨⟨_,_⟩,_,⟨F,G,H,I⟩,a⟩:=j
 have a:u6 f p.1 p.2=true:=by simpa using a
 have l:p.1+p.2<=f.length:=an
 unfold vK at b;rw[aaM] at b;obtain⟨x,u,e⟩:=b;cases e
 have v:(Ag f p.1 p.2).length=p.2:=by rw[Ag,aaj,aax];omega
 have m:∀ y∈Ag f p.1 p.2,y.k<4294967296:=SD g _ _
 have MV:bn (Ag f p.1 p.2)=true:=by simp only[u6,aak] at a;exact a.1
 have w:QD f p.1 p.2<262144:=uV _ 18;obtain⟨n,J,K,o⟩:=ztx m MV (fun r z=>(i r z).2.1) u
 have A:x.length<=p.2:=an
 refine⟨zxg q a an l n A,zEs g o,by rw[zsI l];omega,zCK i m o (by simp only;omega),fun B=>?_⟩
 exact(zAP B (by
  simp only[TR.may,MV,n,abN,aak,decide_eq_true_eq]
  exact⟨an,w⟩)).1
structure aiV (f:List af) (t:List TR) (q:(List af×List TR)×Nat×Bool):Prop where
 sound:dJ q.1.1=true
 k:∀ y∈q.1.1,y.k<4294967296
 len:q.1.1.length<=f.length
 run:∀ d:Da,d.ok->(run d q.1.1 De).1=(run d f De).1/\((∀ y∈f,y.op≠60)->(run d q.1.1 De).2<=(run d f De).2)
 all:x6 f->x6 q.1.1
 tk:qk q.1.2
 dN:dD t=true->dD q.1.2=true/\t.length<=q.1.2.length/\q.1.2.length<=t.length+q.2.1/\∀ r∈q.1.2,r∈t\/bn r.fr=true/\bn r.to=true/\(dX r.fr r.to r.lv).1=0
def qB(b lo hi:Int):Int:=max lo (min b hi)
def XY[eO G](b lo hi:Int):FP G 360 [.int .i64 b,.int .i64 lo,.int .i64 hi] (.int .i64 (qB b lo hi)):=by refine bF eO.adZ (aab rfl) ?_;simp[qB];omega
def zAv[eO G](a b c:Int):FP G 361 [.agg [.int .i64 a,.int .i64 b,.int .i64 c]] (.agg [.int .i64 (qB a 0 1000),.int .i64 (qB b 0 1000),.int .i64 (qB c 0 32)]):=by refine bF eO.ad0 (aab rfl) ?_;simp;refine ax (XY _ _ _) ?_;simp;refine ax (XY _ _ _) ?_;simp;refine ax (XY _ _ _) ?_;simp
def kR(t:List TR):List TR:=if dD t=true then t else []
def zCL[aB G][aA G][aL G][dU G][cI G][eO G](t:List TR)(c:t.length<=1000000)(d:∀ r∈t,r.ok):FP G 362 [TF t] (TF (kR t)):=by
 refine bF eO.ad1 (aab rfl) ?_;have a:=MF (G:=G) t c d;simp only[TF] at a;simp[TF];refine ax a ?_
 cases b:dD t with
 | false=>simp[kR,b,TL]
 | true=>simp[kR,b]
def zwu[dK G][dp G][aB G][aA G][bJ G][df G][cW G][aL G][cO G][cP G][bT G][b_ G][bI G][au G][Q:dM G][cu G][aI G][cT G][bV G][cJ G][eC G][fM G][fg G][fh G][iU G][dU G][cI G][eO G]
  (w:List af) (t:List TR) (live:Nat) (tries:Int) (i:bn w=true) (v:∀ x∈w,x.k<4294967296) (I:t.length<=1000000) (y:∀ r∈t,r.ok) (j:live<4294967296) :
  FP G 363 [FL w,TF t,.int .u32 live,.int .i64 tries] (nG (yA w t live tries)):=by
 refine bF eO.ad2 (aab rfl) ?_;have z:=zAq (G:=G) t w live I y j;have J:=(Jc i).1;have a:w.length<=maxLen:=aaQ J (by decide);have l:=zCT (G:=G) w live tries a v i j;simp only[FL,TF] at z l;simp[FL,TF];refine ax z ?_
 cases e:A9 t w live with
 | none =>
  have b:yA w t live tries=ja w live tries:=by rw[yA,e]
  rw[b];simp[nG];refine ax l ?_
  cases ja w live tries<;>simp[nG]
 | some x =>
  obtain⟨r,K,R,C,m⟩:=zyq e;have D:=(y r K).2.2.2.1;have E:=(G4 m).2;rw[C] at D E;have c:=zq2 (G:=G) w x live a (aaQ E (by decide)) v D j
  have d:bn x=true:=by simp only[TR.may,aak] at m;rw[<-C];exact m.1.1.2
  simp only[FL,i,d,Bool.and_self,if_true] at c;simp[nG];refine ax c ?_;obtain⟨A,F⟩:∃ A,A=dm 0 none:=⟨_,rfl⟩
  have L:A.length=28:=by rw[F];rfl
  obtain⟨f,B,o,M,N,O,H⟩:∃(f:Int) (B:List V),(dX w x live).1=f/\B=dm (dX w x live).1 (dX w x live).2/\(∀ n,aX n B=B)/\B.length=28/\B.take 1=[.int .i64 (dX w x live).1] :=
   ⟨_,_,rfl,rfl,fun n=>Oj _ _ n,zsF w x live,zuN _ _⟩
  have p:V.int .i64 0::(av .u32 (aQ 20)++av .u64 (aQ 7))=A:=by rw[F];rfl
  have q:B.take 28=B:=aaq an;have s:B.drop 28=[]:=abm an;have u:A.drop 28=[]:=abm an;rw[<-M];rw[o] at H;simp[p,u,q,s,L,O,H,N]
  by_cases g:f=0
  ·have b:yA w t live tries=some x:=by rw[yA,e];simp only[];rw[if_pos ⟨d,by rw[o,g]⟩]
   simp[g,b,nG]
  ·have b:yA w t live tries=ja w live tries:=by rw[yA,e];simp only[];rw[if_neg (by rintro⟨_,h⟩;rw[o] at h;exact g h)]
   have P:(f==0)=false:=aM g;rw[b];simp[P];refine ax l ?_
   cases ja w live tries<;>simp[nG]
def mK(f:List af)(t:List TR)(n:Nat)(d:Bool):List V:=[FL f,TF t,.int .i64 n,.bool d]
def x7(f:List af)(t:List TR):Option (List af×List TR)->V
 | some q=>.bc [.agg (mK q.1 q.2 1 false),.bool true]
 | none=>.bc [.agg (mK f t 0 true),.bool false]
def QI(t:List TR):Prop:=t.length<=1000000/\∀ r∈t,r.ok
def zwv[dK G][dp G][aB G][aA G][bJ G][df G][cW G][aL G][cO G][cP G][bT G][b_ G][bI G][au G][BM:dM G][cu G][aI G][cT G][bV G][cJ G][eC G][fM G][fg G][fh G][iU G][cS G][fe G][eg G][dU G][cI G][eO G]
  (f:List af) (t:List TR) (J tries most:Int) (K:dJ f=true) (s:∀ x∈f,x.k<4294967296) (g:QI t) (hm:0<=most/\most<=32) :
  FP G 364 [FL f,TF t,.agg [.int .i64 J,.int .i64 tries,.int .i64 most]] (x7 f t (CK f t tries most)):=by
 refine bF eO.ad3 (aab rfl) ?_;have XZ:=HY K;have M:f.length<=maxLen:=aaQ XZ (by decide);have w:=zxb (G:=G) f most M s an;obtain⟨L,u⟩:∃ L,L=rows f most f.length:=⟨_,rfl⟩
 have X0:L.length<=200000:=by have:=SJ f most f.length;rw[u];omega
 rw[<-u] at w
 have N:CK f t tries most=L.findSome? (vK f t tries):=by rw[CK,u]
 simp only[FL] at w;simp[FL,TF];refine ax w ?_;simp
 refine aP L.length (fun i=>[(0,FL f),(1,TF t),(5,.ptr 0 0),(6,.ptr 1 0),(24,.vs (uI L) .no),(25,.int .i64 L.length),(26,.int .i64 i)])
  (fun _=>[some (.cells [.int .i64 J,.int .i64 tries,.int .i64 most]),some (.cells [.vs [] .full,.vs [] .full,.int .i64 0,.bool false])]) (fun i=>∀ j<i,∀ p,L[j]?=some p->vK f t tries p=none) ?_ ?_
 ·simp[aq,ai,FL,TF]
 intro i hi z
 by_cases A:i<L.length
 ·obtain⟨p,l⟩:∃ p,p=L[i]:=⟨_,rfl⟩
  have O:L[i]?=some p:=by rw[l];exact aac A
  have SK:p∈rows f most f.length:=by rw[<-u];exact aaf O
  obtain⟨Cm,B,h2,yB⟩:=SO SK;have Q:=B;simp only[qt,aak] at Q;have R:=Q.2;simp only[qt,AG,tF,AF,aak,decide_eq_true_eq] at B;obtain⟨⟨_,_⟩,_,⟨i1,i2,i3,i4⟩,d⟩:=B
  have d:u6 f p.1 p.2=true:=by simpa using d
  obtain⟨a,n⟩:=p;simp only at Cm h2 yB d i1 i2 i3 i4 R
  have v9:a+n<=f.length:=an
  obtain⟨x,S⟩:∃ x,f[a+n-1]?=some x:=⟨_,aac an⟩;have v:=zwU (G:=G) f (a+n-1) x S s K
  have ma:∀ x∈(f.drop a).take n,qD x=true:=by simp only[u6,aak] at d;exact SP d.1
  have HN:qD x=true:=ma x (by
   refine aaf (i:=n-1) ?_;rw[aa2,if_pos an,aa0,show a+(n-1)=a+n-1 by omega]
   exact S)
  have L4:aZ x=[0]:=by obtain⟨h5,iD,h6,Ff⟩:=zxh HN;simp[aZ,iy,h5,iD,h6,Ff]
  rw[L4,zDn,show a+n-1+1=a+n by omega] at v;obtain⟨live,C⟩:∃ live,live=QD f a n:=⟨_,rfl⟩
  have T:live<4294967296:=by rw[C];exact Nat.lt_of_lt_of_le (uV _ 18) (by decide)
  rw[show gK (nd (f.drop (a+n))) 18=live from C.symm] at v;obtain⟨P,e⟩:∃ P,P=Ag f a n:=⟨_,rfl⟩
  have ha:P.length=n:=by rw[e,Ag,aaj,aax];omega
  have D:∀ y∈P,y.k<4294967296:=by rw[e];exact SD s a n
  have MV:bn P=true:=by rw[e,Ag];simp only[u6,aak] at d;exact d.1
  have U:=zwu (G:=G) P t live tries MV D g.1 g.2 T;have e1:aD .i64 (a:Int) (n:Int)=((a+n:Nat):Int):=qH an
  have e2:cM .i64 ((a+n:Nat):Int) 1=((a+n-1:Nat):Int):=by rw[oB]<;>omega
  have V:((IL f).drop a).take n=IL P:=by rw[Rz,RA,e,Ag]
  have QK:((IL f).take (a+n)).drop a=IL P:=by rw[RA,Rz,e,Ag,List.drop_take];congr 2;omega
  have CM:((IL f).drop a).take (a+n-a)=IL P:=by rw[show a+n-a=n by omega];exact V
  have W:L[i]=(a,n):=l.symm;have c1:((a:Int)<=((a+n:Nat):Int))=True:=eq_true an;have c2:(((a+n:Nat):Int)<=(f.length:Int))=True:=eq_true an
  have X:vK f t tries (a,n)=(yA P t live tries).map fun x=>(jD f a n x,(qj t ⟨P,x,live⟩).1):=by rw[vK,<-e,<-C]
  simp only[FL,TF] at v U;simp(disch:=omega)[bC,az,W,FL,TF,e1,e2,c1,c2,CM,-aaa];refine ax v ?_;simp(disch:=omega)[V];refine ax U ?_
  cases E:yA P t live tries with
  | none =>
   have sI:∀ j<i+1,∀ p,L[j]?=some p->vK f t tries p=none:=fun j b p c=>by
    rcases aaW.1 b with h|rfl
    ·exact z j h p c
    ·rw[O] at c;cases c;rw[X,E];rfl
   simp(disch:=omega)[nG,A,bE,aq,ai,FL,TF,-aaa]
   exact fun j b p q c=>sI j b (p,q) c
  | some y =>
   obtain⟨Y,w2,w3,Z⟩:=ztx D MV (fun r m=>(g.2 r m).2.2.2.1) E;have MY:=(Jc Y).1
   have X4:Ov f a n y=true:=by simp only[Ov,R,Y,abN,decide_eq_true_eq];omega
   have MZ:=zDh (G:=G) f y a n M (aaQ MY (by decide)) s Z X4;obtain⟨r,m⟩:∃ r:TR,r=⟨P,y,live⟩:=⟨_,rfl⟩
   have Qv:r.ok:=by rw[m];exact⟨aaQ (show P.length<=32 by omega) (by decide),aaQ MY (by decide),D,Z,T⟩
   have F:=zym (G:=G) t r g.1 g.2 Qv
   have EV:TV r=.agg [.vs (IL P) .no,.vs (IL y) .no,.int .u32 live]:=by rw[m];rfl
   rw[EV] at F
   have H:CK f t tries most=some (jD f a n y,(qj t r).1):=by
    rw[N]
    have ki:L=L.take i++(a,n)::L.drop (i+1):=by have:=aaI A;rw[W] at this;rw[<-this,List.take_append_drop]
    exact List.findSome?_eq_some_iff.2 ⟨L.take i,(a,n),L.drop (i+1),ki,by rw[X,E,m];rfl,fun p c=>by
     obtain⟨j,b⟩:=aat c;rw[aa2] at b;split at b
     ·rename_i uN;exact z j uN p b
     ·cases b⟩
   rw[H];simp only[FL,TF] at MZ F;simp[nG];refine ax MZ ?_;simp;refine ax F ?_
   by_cases o:(qj t r).2=0
   ·have I:((qj t r).2==0)=true:=by simp[o]
    simp[I,x7,mK,FL,TF]
   ·have I:((qj t r).2==0)=false:=aM o
    have tI:(qj t r).1=t:=by
     unfold qj at o |-;split
     ·split
      ·rfl
      ·split
       ·rfl
       ·rename_i g1 g2 g3;rw[if_pos g1,if_neg g2,if_neg g3] at o;exact absurd rfl o
     ·rfl
    simp[I,tI,x7,mK,FL,TF]
 ·have ay:i=L.length:=an
  subst ay
  have zZ:CK f t tries most=none:=by rw[N,List.findSome?_eq_none_iff];intro p c;obtain⟨j,b⟩:=aat c;exact z j (aae.1 b).1 p b
  rw[zZ];simp[x7,mK,FL,TF]
def su(f:List af)(a:Nat)(m:List Bool):List Bool :=
 if h:a<f.length then
  if m.getD a false=true then m
  else if iy (f[a]'h).op=true then m.set a true
  else if(f[a]'h).op=5 then su f (a+1+(f[a]'h).k) (m.set a true)
  else if br (f[a]'h).op=true then su f (a+1+(f[a]'h).jf.toNat) (su f (a+1+(f[a]'h).jt.toNat) (m.set a true))
  else su f (a+1) (m.set a true)
 else m
termination_by f.length-a
def lQ(m:List Bool)(i:Nat):Prop:=m[i]?=some true
structure Mt (f:List af) (a:Nat) (m m':List Bool):Prop where
 len:m'.length=m.length
 mono:∀ i,lQ m i->lQ m' i
 at':lQ m' a
 cls:∀ i x,lQ m' i->¬lQ m i->f[i]?=some x->∀ o∈aZ x,lQ m' (i+1+o)
 min:∀ i,lQ m' i->¬lQ m i->i=a\/∃ j x o,f[j]?=some x/\lQ m' j/\o∈aZ x/\j+1+o=i
def Jk{m:List Bool}{a i:Nat}(b:a<m.length):lQ (m.set a true) i↔i=a\/lQ m i:=by
 unfold lQ
 by_cases e:a=i
 ·subst e;rw[aaE b];simp
 ·rw[aas e];constructor
  ·exact .inr
  ·rintro(h|h)
   ·exact absurd h.symm e
   ·exact h
def Mt.refl{f:List af}{a:Nat}{m:List Bool}(h:lQ m a):Mt f a m m:=⟨rfl,fun _ h=>h,h,fun i x b c=>absurd b c,fun i b c=>absurd b c⟩
def Mt.one{f:List af}{a:Nat}{m b:List Bool}{x:af}(d:a<m.length)(n:f[a]?=some x)(p:b.length=m.length)(c:∀ i,lQ (m.set a true) i->lQ b i)
  (nx:∀ o∈aZ x,lQ b (a+1+o)) (g:∀ i y,lQ b i->¬lQ (m.set a true) i->f[i]?=some y->∀ o∈aZ y,lQ b (i+1+o))
  (min:∀ i,lQ b i->¬lQ (m.set a true) i->∃ j y o,f[j]?=some y/\lQ b j/\o∈aZ y/\j+1+o=i):Mt f a m b:=by
 have q:lQ b a:=c a ((Jk d).2 (.inl rfl));refine⟨p,fun i hi=>c i ((Jk d).2 (.inr hi)),q,fun i y hi k l=>?_,fun i hi k=>?_⟩
 ·by_cases e:i=a
  ·subst e;rw[n] at l;cases l;exact nx
  ·exact g i y hi (fun h=>((Jk d).1 h).elim e k) l
 ·by_cases e:i=a
  ·exact .inl e
  ·exact .inr (min i hi fun h=>((Jk d).1 h).elim e k)
def M5{f:List af}(z:dJ f=true):∀(n a:Nat) (m:List Bool),f.length-a<=n->a<f.length->m.length=f.length->Mt f a m (su f a m)
 | 0,a,m,d,c,_=>by omega
 | n+1,a,m,d,c,I=>by
  have l:f[a]?=some f[a]:=aac c;have r:=fun o h=>HJ (o:=o) z l h;obtain⟨x,D⟩:∃ x,x=f[a]:=⟨_,rfl⟩;rw[<-D] at l r;rw[su,dif_pos c,<-D]
  by_cases p:m.getD a false=true
  ·rw[if_pos p];refine .refl ?_;rw[aar] at p;unfold lQ
   cases E:m[a]? with
   | none=>rw[E] at p;cases p
   | some b=>rw[E] at p;simp at p;rw[p]
  rw[if_neg p]
  have t:a<m.length:=an
  have C:(m.set a true).length=f.length:=by rw[aaR,I]
  by_cases A:iy x.op=true
  ·rw[if_pos A];refine Mt.one t l ir (fun _ h=>h) (fun o h=>?_) (fun i y d c=>absurd d c) (fun i d c=>absurd d c);simp[aZ,A] at h
  rw[if_neg A]
  have F:iy x.op=false:=by simpa using A
  have u:∀ o,aZ x=[o]->Mt f a m (su f (a+1+o) (m.set a true)):=fun o e=>by
   have J:=r o (by rw[e];simp);have k:=M5 z n (a+1+o) (m.set a true) an J C;refine Mt.one t l (by rw[k.len];simp) k.mono (fun q h=>?_) k.cls (fun i d c=>?_)
   ·rw[e,aap] at h;subst h;exact k.at'
   ·rcases k.min i d c with rfl|h
    ·exact⟨a,x,o,l,k.mono a ((Jk t).2 (.inl rfl)),by rw[e];simp,rfl⟩
    ·exact h
  by_cases v:x.op=5
  ·rw[if_pos v]
   have K:iy (5:Int)=false:=by decide
   exact u x.k (by simp[aZ,v,K])
  rw[if_neg v]
  by_cases B:br x.op=true
  ·rw[if_pos B]
   have w:aZ x=[x.jt.toNat,x.jf.toNat]:=by simp[aZ,F,v,B]
   have s:=M5 z n (a+1+x.jt.toNat) (m.set a true) an (r _ (by rw[w];simp)) C;have g:=M5 z n (a+1+x.jf.toNat) (su f (a+1+x.jt.toNat) (m.set a true)) an (r _ (by rw[w];simp)) (by rw[s.len,C]);refine Mt.one t l (by rw[g.len,s.len];simp) (fun i h=>g.mono i (s.mono i h)) (fun q h=>?_) (fun i y d c G o r=>?_) (fun i d c=>?_)
   ·rw[w] at h;simp only[aaZ,abB,or_false] at h
    rcases h with rfl|rfl
    ·exact g.mono _ s.at'
    ·exact g.at'
   ·by_cases hi:lQ (su f (a+1+x.jt.toNat) (m.set a true)) i
    ·exact g.mono _ (s.cls i y hi c G o r)
    ·exact g.cls i y d hi G o r
   ·have H:lQ (su f (a+1+x.jf.toNat) (su f (a+1+x.jt.toNat) (m.set a true))) a:=g.mono _ (s.mono a ((Jk t).2 (.inl rfl)))
    by_cases hi:lQ (su f (a+1+x.jt.toNat) (m.set a true)) i
    ·rcases s.min i hi c with rfl|⟨j,y,o,L,M,N,O⟩
     ·exact⟨a,x,_,l,H,by rw[w];simp,rfl⟩
     ·exact⟨j,y,o,L,g.mono _ M,N,O⟩
    ·rcases g.min i d hi with rfl|h
     ·exact⟨a,x,_,l,H,by rw[w];simp,rfl⟩
     ·exact h
  ·rw[if_neg B];have:=u 0 (by simp[aZ,F,v,B]);simpa using this
def nJ(f:List af):List Bool:=su f 0 (aa3 f.length false)
def zvu:∀{f:List af} {m:List Bool},f.length=m.length->(∀ i x,lQ m i->f[i]?=some x->∀ o∈aZ x,lQ m (i+1+o))->mc f m
 | [],[],_,_=>trivial
 | [],_::_,h,_=>by simp at h
 | _::_,[],h,_=>by simp at h
 | x::f,b::m,h,c=>by
  refine⟨fun d o a=>?_,zvu (by simpa using h) fun i y hi e o a=>?_⟩
  ·have:=c 0 x (by rw[d];rfl) rfl o a;rw[show 0+1+o=o+1 by omega] at this;exact this
  ·have:=c (i+1) y hi (by simpa using e) o a;rw[show i+1+1+o=(i+1+o)+1 by omega] at this;exact this
def X5{f:List af}(a:dJ f=true):(nJ f).length=f.length/\mc f (nJ f)/\(nJ f)[0]?=some true/\M6 f (nJ f):=by
 have d:0<f.length:=by
  have:=zsx a
  cases f with
  | nil=>exact absurd rfl this
  | cons x f=>simp
 have k:=M5 a f.length 0 (aa3 f.length false) an d ir
 have b:∀ i,¬lQ (aa3 f.length false) i:=fun i h=>by
  have:=aaf h;rw[List.mem_replicate] at this;cases this.2
 have c:(nJ f).length=f.length:=by rw[nJ,k.len];simp
 refine⟨c,zvu c.symm fun i x hi e=>k.cls i x hi (b i) e,k.at',fun i hi p=>?_⟩
 rcases k.min i hi (b i) with rfl|⟨j,x,o,g,l,m,n⟩
 ·omega
 ·exact⟨j,x,o,g,l,m,n⟩
def prune(f:List af):List af:=dC f (nJ f)
def ztA{f:List af}(b:dJ f=true):dJ (prune f)=true/\(prune f).length<=f.length/\x6 (prune f)/\∀ d s,run d (prune f) s=run d f s:=by obtain⟨e,a,c,g⟩:=X5 b;refine⟨zxk b a c,?_,zAO a g,fun d s=>zuQ d _ f _ s (aaA _) a c⟩;have:=List.countP_le_length (p:=id) (l:=nJ f);rw[prune,Fg f _ e.symm];omega
def X6:∀{f:List af} {m:List Bool} {y:af},y∈dC f m->∃ x∈f,y.op=x.op/\(y.k=x.k\/y.k<=x.k)
 | x::f,true::m,y,h=>by
  rw[dC,aaZ] at h
  rcases h with rfl|h
  ·refine⟨x,ir,Fe m x,?_⟩;unfold j_;split
   ·exact .inr (H7 _ _)
   ·split<;>exact .inl rfl
  ·obtain⟨z,a,b⟩:=X6 h
   exact⟨z,by simp[a],b⟩
 | x::f,false::m,y,h=>by
  rw[dC] at h;obtain⟨z,a,b⟩:=X6 h
  exact⟨z,by simp[a],b⟩
 | [],_,_,h=>by simp[dC] at h
 | _::_,[],_,h=>by simp[dC] at h
def HM(f:List af)(m:List Bool):ae:=[some (.cells [FL f]),some (.cells (cb m)),some (.cells [.rs 1 0 f.length 1]),some (.cells [.fn 346 [.ptr 2 0,.ptr 0 0,.ptr 3 0]])]
def zCM(f:List af)(m:List Bool):fY (HM f m):=by intro n a;simp only[HM,aa5,aa7] at a;simp[HM,FL,aw.cl,aX,V.cl,Tk.cl,show 0<n by omega,show 1<n by omega,show 2<n by omega,show 3<n by omega]
def zvv[aB G][fZ G]{f:List af}(E:dJ f=true)(Z:∀ x∈f,x.k<4294967296)(hf:f.length<=maxLen):∀(n a:Nat) (m:List Bool) (r:ae),(∀ n,r.map (aaC (aw.cl n))=r)->f.length-a<=n->a<f.length->m.length=f.length ->
  SF G 346 [.int .i64 a,.ptr 2 0,.ptr 0 0,.ptr 3 0] (HM f m++r) (.bc []) (HM f (su f a m)++r)
 | 0,a,m,r,_,h1,I,_=>by omega
 | n+1,a,m,r,hr,h1,I,h3=>by
  refine jx fZ.adL (aab rfl) ?_;have e:∀ m,(HM f m).length=4:=fun m=>rfl;have g0:∀ m (s:ae),(HM f m++s)[0]?=some (some (.cells [FL f])):=fun m s=>rfl;have g1:∀ m (s:ae),(HM f m++s)[1]?=some (some (.cells (cb m))):=fun m s=>rfl;have g2:∀ m (s:ae),(HM f m++s)[2]?=some (some (.cells [.rs 1 0 f.length 1])):=fun m s=>rfl;have J:∀ m (s:ae),(HM f m++s)[3]?=some (some (.cells [.fn 346 [.ptr 2 0,.ptr 0 0,.ptr 3 0]])):=fun m s=>rfl
  have s1:∀ m K (s:ae),(HM f m++s).set 1 (some (.cells (cb K)))=HM f K++s:=fun m K s=>rfl
  have kk:∀ m (s:ae),(HM f m++(r++s))[4+r.length]?=s[0]?:=fun m s=>by
   rw[<-aaJ];exact lW (by simp[e])
  have k0:∀ m (s:ae) y,(HM f m++(r++s)).set (4+r.length) y=HM f m++(r++s.set 0 y):=fun m s y=>by
   rw[<-aaJ,qW (by simp[e]),aaJ]
  have p:∀ m (s:ae),ai (4+r.length) (HM f m++(r++s))=HM f m++r:=fun m s=>by
   have:=((zCM f m).app hr).back s;rw[aaJ,aaw,e] at this;exact this
  have g:0<4+r.length:=an
  have i:2<4+r.length:=an
  have j:3<4+r.length:=an
  obtain⟨R,hR⟩:∃ R,R=su f a m:=⟨_,rfl⟩;rw[<-hR];simp[e];refine uW (S:=Nat×List Bool) (fun s=>f.length-s.1) (fun s=>[(0,.int .i64 s.1),(1,.ptr 2 0),(2,.ptr 0 0),(3,.ptr 3 0)]) (fun s=>HM f s.2++r) (fun s=>su f s.1 s.2=R/\s.1<f.length/\s.2.length=f.length/\a<=s.1) (a,m) ?_ ?_
  ·have:=p m [];simp at this;simp[aq,e,this,hR,I,h3,g,i,j]
  rintro⟨b,u⟩ ⟨d,A,hu,M7⟩;simp only at d A hu M7 |-;have L:f[b]?=some f[b]:=aac A;have B:=fun o h=>HJ (o:=o) E L h;have jY:=N5 E L;obtain⟨x,F⟩:∃ x,x=f[b]:=⟨_,rfl⟩;rw[<-F] at L B jY;have q:x.cs.length=4:=rfl;have M:x.cs.take 4=x.cs:=rfl;have ef:=qT A;rw[<-F] at ef;have N:u[b]?=some u[b]:=aac an;obtain⟨t,ht⟩:∃ t,t=u[b]'(by omega):=⟨_,rfl⟩;rw[<-ht] at N;have C:=zC9 u b t N
  have dB:=N4 u b true an;rw[su,dif_pos A,<-F] at d
  have tW:u.getD b false=t:=by rw[aar,N];rfl
  rw[tW] at d;have bu:=p u [];simp at bu;have l5:=hf;simp only[maxLen] at l5
  cases t with
  | true =>
   rw[if_pos rfl] at d;subst d
   simp(disch:=omega)[e,g0,g1,g2,J,C,az,fF,bu]
  | false =>
   rw[if_neg ir] at d;simp(disch:=omega)[e,g0,g1,g2,J,C,az,fF,dB,s1,FL,ef,q,M,kk,k0];refine ax (JF x) ?_;have O:(x.cs.drop 0).take 1=[.int .i64 x.op]:=rfl;have x1:x.cs.tail.take 1=[.int .i64 x.jt]:=rfl;have x2:(x.cs.drop 2).take 1=[.int .i64 x.jf]:=rfl;have x3:(x.cs.drop 3).take 1=[.int .u32 (x.k:Int)]:=rfl;have P:x.cs.take 1=[.int .i64 x.op]:=rfl
   have kx:∀ n,aX n x.cs=x.cs:=fun n=>by simp[af.cs,aX,V.cl]
   have wL:x.k<4294967296:=Z x (by rw[F];exact abj A)
   have v:(u.set b true).length=f.length:=by simp[hu]
   obtain⟨U,hU⟩:∃ U,U=u.set b true:=⟨_,rfl⟩;rw[<-hU] at d v |-
   by_cases H:iy x.op=true
   ·rw[if_pos H] at d;subst d;simp[H,p]
   rw[if_neg H] at d
   have D:iy x.op=false:=by simpa using H
   have Q:∀{c:Nat},b<c->c<f.length->f.length-c<f.length-b:=fun h1 I=>by omega
   by_cases l:x.op=5
   ·rw[if_pos l] at d
    have Jl:iy (5:Int)=false:=by decide
    have w:=B x.k (by simp[aZ,l,Jl])
    have c1:fB .i64 (x.k:Int)=(x.k:Int):=by rw[EM]<;>omega
    have T:aD .i64 (b:Int) (x.k:Int)=((b+x.k:Nat):Int):=by rw[dW]<;>omega
    have W:aD .i64 ((b+x.k:Nat):Int) 1=((b+1+x.k:Nat):Int):=by rw[dW]<;>omega
    simp(disch:=omega)[D,l,Jl,kk,O,P,x3,q,c1,T,W,aq,e,p,d,w,v,g,i,j,-aaa];exact⟨(b+1+x.k,U),Q an w,⟨d,w,v,by simp only;omega⟩,by simp[aq,e,g,i,j,-aaa],p U _⟩
   rw[if_neg l] at d
   by_cases z:br x.op=true
   ·rw[if_pos z] at d;obtain⟨b1,b2,b3,b4⟩:=jY z
    have kK:aZ x=[x.jt.toNat,x.jf.toNat]:=by simp[aZ,D,l,z]
    have rX:=B x.jt.toNat (by rw[kK];simp);have kS:=B x.jf.toNat (by rw[kK];simp)
    have X:aD .i64 (b:Int) 1=((b+1:Nat):Int):=by rw[dW]<;>omega
    have T:aD .i64 ((b+1:Nat):Int) x.jt=((b+1+x.jt.toNat:Nat):Int):=by rw[dW]<;>omega
    have W:aD .i64 (b:Int) x.jf=((b+x.jf.toNat:Nat):Int):=by rw[dW]<;>omega
    have a3:aD .i64 ((b+x.jf.toNat:Nat):Int) 1=((b+1+x.jf.toNat:Nat):Int):=by rw[dW]<;>omega
    have Y:=aM l;have ih:=zvv E Z hf n (b+1+x.jt.toNat) U (r++[some (.cells x.cs)]) (fun n=>by simp[hr,aw.cl,kx]) an rX v;have k:=M5 E n (b+1+x.jt.toNat) U an rX v;simp(disch:=omega)[D,Y,kk,O,P,q,M,aq,e,g,i,j,-aaa];refine ax (yg x) ?_;simp(disch:=omega)[z,kk,x1,J,X,T,q,e,aq,g,i,j,-aaa];refine Jm (args:=[.int .i64 ((b+1+x.jt.toNat:Nat):Int)]) (cap:=[.ptr 2 0,.ptr 0 0,.ptr 3 0]) ih ?_
    simp(disch:=omega)[kk,x2,W,a3,q,e,aq,g,i,j,-aaa];exact⟨(b+1+x.jf.toNat,su f (b+1+x.jt.toNat) U),Q an kS,⟨d,kS,by simp only[k.len,v],by simp only;omega⟩,by simp[aq,e,g,i,j,-aaa],p _ _⟩
   ·rw[if_neg z] at d
    have M8:br x.op=false:=by simpa using z
    have w:=B 0 (by simp[aZ,D,l,M8]);have Y:=aM l
    have X:aD .i64 (b:Int) 1=((b+1:Nat):Int):=by rw[dW]<;>omega
    simp(disch:=omega)[D,Y,kk,O,P,q,M,aq,e,g,i,j,-aaa];refine ax (yg x) ?_;simp(disch:=omega)[M8,kk,X,q,e,aq,g,i,j,-aaa];exact⟨(b+1,U),Q an w,⟨d,w,v,by simp only;omega⟩,by simp[aq,e,g,i,j,-aaa],p U _⟩
def zD9[aB G][aA G][fZ G]{f:List af}(a:dJ f=true)(b:∀ x∈f,x.k<4294967296)(h:f.length<=4096) :
  FP G 347 [FL f] (.bc [.vs (l8 (nJ f)) .no,.int .i64 0]):=by
 refine bF fZ.adM (aab rfl) ?_;have c:f.length<=maxLen:=aaQ h (by decide);have d:=JG (G:=G) f c b;rw[a] at d;simp[FL];refine ax d ?_
 have i:0<f.length:=by
  have:=zsx a
  cases f with
  | nil=>exact absurd rfl this
  | cons x f=>simp
 have k:=zvv (G:=G) a b c f.length 0 (aa3 f.length false) [] (fun n=>rfl) an i ir;simp(disch:=omega)[FL,aq,az];refine Jm (args:=[.int .i64 ((0:Nat):Int)]) (cap:=[.ptr 2 0,.ptr 0 0,.ptr 3 0]) k ?_;have e:(nJ f).length=f.length:=(X5 a).1;have g:=Se (nJ f);rw[e] at g;rw[show su f 0 (aa3 f.length false)=nJ f from rfl];simp[HM,e,g]
def QM{m:List Bool}{i:Nat}{t:Bool}(h:m[i]?=some t):bG m (i+1)=bG m i+(if t=true then 1 else 0):=by
 rw[bG,bG,aao,h,abg,List.countP_append]
 cases t<;>simp
def zCN{m:List Bool}{i:Nat}(h:m[i]?=some true)(o:Nat):bG m (i+1+o)=bG m i+1+bG (m.drop (i+1)) o:=by rw[Ya,QM h];simp
def mN(f:List af)(m:List Bool)(i:Nat):List af:=(dC f m).take (bG m i)
def zCO{f:List af}{m:List Bool}{i:Nat}(h:m[i]?=some false):mN f m (i+1)=mN f m i:=by rw[mN,mN,QM h];rfl
def zAw{f:List af}{m:List Bool}{i:Nat}{x:af}(b:f.length=m.length)(c:f[i]?=some x)(h:m[i]?=some true):mN f m (i+1)=mN f m i++[j_ (m.drop (i+1)) x]:=by
 have a:=OA f m i b;obtain⟨d,rfl⟩:=aae.1 c;obtain⟨g,e⟩:=aae.1 h;rw[aaI d,aaI g,e,dC] at a
 have j:(dC f m)[bG m i]?=some (j_ (m.drop (i+1)) f[i]):=by rw[<-List.head?_drop,a];rfl
 rw[mN,mN,QM h,if_pos rfl,aao,j];rfl
def zAx{f:List af}{m:List Bool}(a:f.length=m.length):mN f m f.length=dC f m:=by rw[mN,aaq];rw[Fg f m a,a,bG,aau];exact aaA _
def zAy(f:List af)(m:List Bool)(i:Nat):(mN f m i).length<=i:=by rw[mN,aaj];have:=H7 m i;omega
def mO(m:List Bool)(i:Nat):List Nat:=(aba m.length).map fun j=>if j<i then bG m j else 0
def ztB(m:List Bool)(i:Nat):(mO m i).length=m.length:=by simp[mO]
def zAz{m:List Bool}{i:Nat}(h:i<m.length):(mO m i).set i (bG m i)=mO m (i+1):=by
 apply abE
 ·simp[mO]
 intro j b c;simp only[mO,aaR,aa_,List.length_range] at b c;rw[List.getElem_set];simp only[mO,List.getElem_map,List.getElem_range]
 by_cases e:i=j
 ·subst e;simp
 ·rw[if_neg e]
  by_cases a:j<i
  ·rw[if_pos a,if_pos an]
  ·rw[if_neg a,if_neg an]
def ztC{m:List Bool}{j:Nat}(h:j<m.length):(mO m m.length)[j]?=some (bG m j):=by rw[mO,aaG,abp h];simp[h]
def zEa[fZ G]{m:List Bool}{i o:Nat}(l:m.length<=4096)(hi:m[i]?=some true)(d:i+1+o<m.length)(z:aw)(y:List V) :
  bp G (.F 348 [.int .i64 i,.int .i64 o,.ptr 1 0] [some (.cells (av .i64 (mO m m.length))),some (.cells [.rs 0 0 m.length 1]),some z,some (.cells y)] (.int .i64 (bG (m.drop (i+1)) o:Nat))
   [some (.cells (av .i64 (mO m m.length))),some (.cells [.rs 0 0 m.length 1]),some z,some (.cells y)]):=by
 refine eB fZ.adN (aab rfl) ?_;have e:aD .i64 (i:Int) 1=((i+1:Nat):Int):=bE an;have f:aD .i64 ((i+1:Nat):Int) (o:Int)=((i+1+o:Nat):Int):=qH an;have n:=H7 m (i+1+o);have p:=zCN hi o;have a:=BC .i64 (ztC (m:=m) (j:=i+1+o) d);have b:=BC .i64 (ztC (m:=m) (j:=i) an)
 have g:cM .i64 (bG m (i+1+o):Int) (bG m i:Int)=((bG m (i+1+o)-bG m i:Nat):Int):=by rw[oB]<;>omega
 have h:cM .i64 ((bG m (i+1+o)-bG m i:Nat):Int) 1=((bG (m.drop (i+1)) o:Nat):Int):=by rw[oB]<;>omega
 obtain⟨N,c⟩:∃ N,N=mO m m.length:=⟨_,rfl⟩
 have k:N.length=m.length:=by rw[c,ztB]
 rw[<-c] at a b |-;simp(disch:=omega)[e,f,a,b,g,h,fF,az,k,-aaa]
def zEb{o:Int}(h:br o=true):iy o=false:=by
 cases e:iy o with
 | false=>rfl
 | true =>
  simp only[iy,Bool.or_eq_true,beq_iff_eq,decide_eq_true_eq] at e
  rcases e with e|e<;>(rw[e] at h;revert h;decide)
def zAA[aB G][aA G][fZ G]{f:List af}(A:dJ f=true)(V:∀ x∈f,x.k<4294967296)(hf:f.length<=4096) :
  FP G 349 [FL f] (.bc [.vs (IL (prune f)) .no,.int .i64 0]):=by
 refine bF fZ.adO (aab rfl) ?_;obtain⟨W,jI,F,_⟩:=X5 A;simp[FL];refine ax (zD9 A V hf) ?_;obtain⟨m,X⟩:∃ m,m=nJ f:=⟨_,rfl⟩
 have QN:prune f=dC f m:=by rw[prune,X]
 rw[<-X] at W jI F |-;have s:f.length=m.length:=W.symm
 have H:m.length<=4096:=an
 have iI:(l8 m).length=m.length:=by simp[l8]
 simp(disch:=omega)[FL,az,iI];obtain⟨N,n⟩:∃ N:Nat->List Nat,∀ j,N j=mO m j:=⟨_,fun _=>rfl⟩
 have I:∀ j,(N j).length=m.length:=fun j=>by rw[n,ztB]
 have Yb:aQ m.length=N 0:=by
  rw[n,mO,aQ]
  apply abE<;>simp
 refine aP m.length (fun i=>[(0,FL f),(4,.vs (l8 m) .no),(6,.ptr 1 0),(7,.int .i64 (bG m i:Nat)),(25,.vs (l8 m) .no),(26,.int .i64 m.length),(27,.int .i64 i)])
  (fun i=>[some (.cells (av .i64 (N i))),some (.cells [.rs 0 0 m.length 1])]) (fun _=>True) ?_ ?_
 ·simp[aq,ai,FL,Yb,s,Fc]
 intro i hi _
 by_cases a:i<m.length
 ·obtain⟨t,u⟩:∃ t,t=m[i]:=⟨_,rfl⟩
  have p:m[i]?=some t:=by rw[aac a,u]
  have v:(l8 m)[i]?=some [.bool t]:=by simp[p]
  have r:(l8 m)[i]' an=[.bool t]:=by simp[l8,u]
  have d:=vU .i64 (N i) i (bG m i) (by rw[I];exact a);rw[n i,zAz a,<-n (i+1),<-n i] at d;have B:=QM p;have w:=H7 m i;have a1:aD .i64 (bG m i:Int) 1=((bG m i+1:Nat):Int):=bE an
  cases t with
  | true =>
   simp(disch:=omega)[bC,az,fF,v,r,d,I,a,bE,a1,B,aq,ai,FL,-aaa]
  | false =>
   simp(disch:=omega)[bC,az,fF,v,r,d,I,a,bE,B,aq,ai,FL,-aaa]
 have J:i=m.length:=an
 subst J;obtain⟨T,e⟩:∃ T:Nat->List af,∀ j,T j=mN f m j:=⟨_,fun _=>rfl⟩
 have uG:T 0=[]:=by rw[e,mN,Fc,abL]
 have K:∀ j,(T j).length<=j:=fun j=>by rw[e];exact zAy f m j
 simp(disch:=omega)[aq,ai,FL,-aaa]
 refine aP m.length (fun i=>[(4,.vs (l8 m) .no),(10,.fn 348 [.ptr 1 0]),(11,.vs (IL (T i)) (.own 2)),(41,FL f),(42,.int .i64 m.length),(43,.int .i64 i)])
  (fun i=>[some (.cells (av .i64 (N m.length))),some (.cells [.rs 0 0 m.length 1]),some (.zone (T i).length)]) (fun _=>True) ?_ ?_
 ·simp[aq,ai,FL,uG,s]
 intro i hi _
 by_cases a:i<m.length
 ·obtain⟨t,u⟩:∃ t,t=m[i]:=⟨_,rfl⟩
  have p:m[i]?=some t:=by rw[aac a,u]
  have r:(l8 m)[i]' an=[.bool t]:=by simp[l8,u]
  obtain⟨x,c⟩:∃ x,x=f[i]'(by omega):=⟨_,rfl⟩;have C:=qT (f:=f) (i:=i) an;rw[<-c] at C;have c:=c.symm
  have L:f[i]?=some x:=by rw[aac an,c]
  have nQ:x∈f:=c▸abj _;have jV:=V x nQ;have jY:=N5 A L;have M:=fun o h=>HJ (o:=o) A L h;have D:x.cs=[.int .i64 x.op,.int .i64 x.jt,.int .i64 x.jf,.int .u32 (x.k:Int)]:=rfl;have Y:=yg (G:=G) x;simp[IV,D] at Y;have k_:=K i
  cases t with
  | false =>
   have O:T (i+1)=T i:=by rw[e,e];exact zCO p
   simp(disch:=omega)[bC,az,fF,r,C,c,D,O,a,bE,aq,ai,FL,-aaa]
  | true =>
   have Z:T (i+1)=T i++[j_ (m.drop (i+1)) x]:=by rw[e,e];exact zAw s L p
   have P:(T (i+1)).length=(T i).length+1:=by rw[Z];simp
   have Q:∀ y:af,y=j_ (m.drop (i+1)) x->IL (T i)++[y.cs]=IL (T (i+1)):=fun y hy=>by rw[Z,hy];exact NQ _ _
   have E:∀ o:Nat,i+1+o<m.length->_:=fun o h=>zEa (G:=G) H p h (.zone (T i).length) x.cs;rw[<-n] at E
   by_cases g:x.op=5
   ·have R:(x.op==5)=true:=by simp[g]
    have Jl:iy (5:Int)=false:=by decide
    have B:=EM x.k jV
    have oF:i+1+x.k<m.length:=by have:=M x.k (by simp[aZ,g,Jl]);omega
    have l:=E x.k oF;have w:=H7 (m.drop (i+1)) x.k
    have tH:fB .u32 ((bG (m.drop (i+1)) x.k:Nat):Int)=((bG (m.drop (i+1)) x.k:Nat):Int):=by unfold fB;exact uB an
    have b:=Q ⟨x.op,x.jt,x.jf,bG (m.drop (i+1)) x.k⟩ (by simp[j_,g]);simp only[af.cs] at l b;obtain⟨q,S⟩:∃ q,q=bG (m.drop (i+1)) x.k:=⟨_,rfl⟩;rw[<-S] at l b tH w;simp(disch:=omega)[bC,az,fF,r,C,c,D,R,B,FL,-aaa];refine jL l ir ?_;simp(disch:=omega)[ai,tH,az,b,P,a,bE,aq,-aaa]
   have R:(x.op==5)=false:=aM g;simp(disch:=omega)[bC,az,fF,r,C,c,D,R,FL,-aaa];refine ax Y ?_;cases z:br x.op
   ·have b:=Q x (by simp[j_,g,z]);simp only[af.cs] at b;simp(disch:=omega)[az,b,P,a,bE,aq,ai,-aaa]
   ·obtain⟨b1,b2,b3,b4⟩:=jY z;have nu:iy x.op=false:=zEb z
    have kK:aZ x=[x.jt.toNat,x.jf.toNat]:=by simp[aZ,nu,g,z]
    have ku:=M x.jt.toNat (by rw[kK];simp);have gZ:=M x.jf.toNat (by rw[kK];simp);have l:=E x.jt.toNat an;have U:=E x.jf.toNat an;have b:=Q ⟨x.op,(bG (m.drop (i+1)) x.jt.toNat:Nat),(bG (m.drop (i+1)) x.jf.toNat:Nat),x.k⟩ (by simp[j_,g,z])
    have j1:((x.jt.toNat:Nat):Int)=x.jt:=an
    have j2:((x.jf.toNat:Nat):Int)=x.jf:=an
    simp only[af.cs,j1,j2] at l U b;obtain⟨q,S⟩:∃ q,q=bG (m.drop (i+1)) x.jt.toNat:=⟨_,rfl⟩;obtain⟨q2,Ga⟩:∃ q,q=bG (m.drop (i+1)) x.jf.toNat:=⟨_,rfl⟩;rw[<-S] at l b;rw[<-Ga] at U b;simp;refine jL l (by simp[ai]) ?_;simp[ai];refine jL U (by simp[ai]) ?_;simp(disch:=omega)[ai,az,b,P,a,bE,aq,-aaa]
 ·have J:i=m.length:=an
  subst J
  have O:T m.length=prune f:=by rw[e,<-s,zAx s,QN]
  simp[O]
noncomputable def sv(f:List af)(t:List TR)(a tries most:Int):(List af×List TR)×Nat×Bool :=
 xZ (qB tries 0 1000) (qB most 0 32) (qB a 0 1000).toNat (prune f) (kR t)
def zyr(t:List TR):dD (kR t)=true:=by
 unfold kR;split
 ·assumption
 ·rfl
def Yc{t:List TR}(h:dD t=true)(b:qk t):QI t:=by
 refine⟨by have:=(ME h).2;omega,fun r a=>?_⟩
 have c:r.may=true:=by simp only[dD,aak] at h;exact aaD.1 h.1.1 r a
 obtain⟨d,e⟩:=G4 c;obtain⟨f,g,i⟩:=b r a;exact⟨aaQ d (by decide),aaQ e (by decide),f,g,i⟩
def zvw{f:List af}(a:∀ x∈f,x.k<4294967296):∀ x∈prune f,x.k<4294967296:=by intro x b;obtain⟨y,c,_,d⟩:=X6 b;have:=a y c;omega
def zn3[dK G][dp G][aB G][aA G][bJ G][df G][cW G][aL G][cO G][cP G][bT G][b_ G][bI G][au G][U:dM G][cu G][aI G][cT G][bV G][cJ G][eC G][fM G][fg G][fh G][iU G][cS G][fe G][eg G][dU G][cI G][fZ G][eO G]
  (f:List af) (t:List TR) (d tries most:Int) (g:dJ f=true) (r:∀ x∈f,x.k<4294967296) (u:QI t) (I:qk (kR t)) :
  FP G 365 [FL f,TF t,.agg [.int .i64 d,.int .i64 tries,.int .i64 most]] (.bc [.agg (mK (sv f t d tries most).1.1 (sv f t d tries most).1.2 (sv f t d tries most).2.1 (sv f t d tries most).2.2),.int .i64 0]):=by
 refine bF eO.ad4 (aab rfl) ?_;have J:=HY g;have v:=zAA (G:=G) g r J;obtain⟨p1,p2,_,_⟩:=ztA g;have p3:=zvw r;have w:=zAv (G:=G) d tries most;have y:=zCL (G:=G) t u.1 u.2;have K:=zyr t;obtain⟨e,z⟩:∃ e,e=qB tries 0 1000:=⟨_,rfl⟩;obtain⟨a,h⟩:∃ a,a=qB most 0 32:=⟨_,rfl⟩
 have L:0<=a/\a<=32:=by rw[h];unfold qB;omega
 obtain⟨R,A⟩:∃ R:Nat,qB d 0 1000=R:=⟨(qB d 0 1000).toNat,by unfold qB;omega⟩
 have M:R<=1000:=by
  have:qB d 0 1000<=1000:=by unfold qB;omega
  omega
 rw[sv,<-z,<-h,A,Int.toNat_natCast];rw[<-z,<-h,A] at w;generalize prune f=F at *;generalize kR t=T at *;obtain⟨Q,B⟩:∃ Q,Q=xZ e a R F T:=⟨_,rfl⟩;rw[<-B];simp only[FL,TF] at v y;simp[FL,TF];refine ax v ?_;simp;refine ax w ?_;simp;refine ax y ?_;simp[aq]
 refine uW (S:=Nat×List af×List TR) (fun s=>R-s.1) (fun s=>[(5,.ptr 0 0),(6,.ptr 1 0),(9,.ptr 2 0),(27,.int .i64 R),(28,.int .i64 s.1)])
  (fun s=>[some (.cells [.int .i64 R,.int .i64 e,.int .i64 a]),some (.cells [.vs [] .full,.vs [] .full,.int .i64 0,.bool false]),some (.cells (mK s.2.1 s.2.2 s.1 false))])
  (fun s=>s.1<=R/\(xZ e a (R-s.1) s.2.1 s.2.2).1=Q.1/\s.1+(xZ e a (R-s.1) s.2.1 s.2.2).2.1=Q.2.1/\(xZ e a (R-s.1) s.2.1 s.2.2).2.2=Q.2.2/\dJ s.2.1=true/\(∀ x∈s.2.1,x.k<4294967296)/\qk s.2.2/\dD s.2.2=true) (0,F,T) ?_ ?_
 ·simp[aq,ai,mK,FL,TF,B,p1,I,K];exact p3
 rintro⟨i,C,D⟩ ⟨hi,q1,c,b,j,l,m,n⟩;simp only at hi q1 c b j l m n |-;have E:=zwv (G:=G) C D R e a j l (Yc n m) L;simp only[FL,TF] at E
 by_cases V:i<R
 ·obtain⟨k,N⟩:∃ k,R-i=k+1:=⟨R-i-1,an⟩;rw[N,xZ] at q1 c b;have O:((i:Int)<(R:Int))=True:=eq_true an;simp[O,mK,FL,TF];refine ax E ?_
  cases o:CK C D e a with
  | none =>
   rw[o] at q1 c b;simp only at q1 c b
   simp[x7,mK,FL,TF,<-q1,<-c,<-b]
  | some q =>
   rw[o] at q1 c b;simp only at q1 c b;have kk:=zty j l m o;simp[x7,mK,FL,TF];have H:aD .i64 (i:Int) 1=((i+1:Nat):Int):=bE an
   have p:R-(i+1)=k:=an
   refine⟨(i+1,q.1,q.2),by simp only;omega,⟨by simp only;omega,by simp only[p];exact q1,by simp only[p];omega,by simp only[p];exact b,kk.sound,kk.k,kk.tk,kk.dN n⟩,?_,?_⟩
   ·rw[H];simp[aq,-aaa]
   ·rw[H];simp[ai,-aaa]
 ·have P:i=R:=an
  subst P;rw[aa1,xZ] at q1 c b;simp only at q1 c b;simp[mK,FL,TF,<-q1,<-c,<-b]
structure Jb where
 p:Po
 f:List (List V)
 F:List (List V)
 T:List (List V)
 n:Int
 d:Bool
 of:List (List V)
 oc:List (List V)
 ot:List (List V)
 on:Int
 od:Bool
 at_:Int
 e:Int
 k1:Tk
 k2:Tk
 k3:Tk
 k4:Tk
 k5:Tk
 k6:Tk
 k7:Tk
def Jb.cs(j:Jb):List V:=[.vs (RL j.p.rules) j.k1,.int .u32 j.p.ew,.vs j.f j.k2,.vs j.F j.k3,.vs j.T j.k4,.int .i64 j.n,.bool j.d,.vs j.of j.k5,.vs j.oc j.k6,.vs j.ot j.k7,.int .i64 j.on,.bool j.od,.int .i64 j.at_,.int .i64 j.e]
def x8:List V:=[.vs [] .full,.vs [] .full,.vs [] .full,.int .i64 0,.bool false]
def jR(x y z:Int):List V:=[.int .i64 x,.int .i64 y,.int .i64 z]
def HC(S:List UInt8)(x y z:Int)(tb:List (List V))(j:Jb)(R:ae):ae :=
 some (.cells [.str S])::some (.cells (jR x y z))::some (.cells x8)::some (.cells j.cs)::some (.cells [.ptr 3 0])::some (.cells [.vs tb .no])::R
section
variable {S:List UInt8} {x y z:Int} {tb:List (List V)} {R:ae}
def ztD[bq G]{j:Jb}{p:Po}{a e:Int}(h:FP G 467 [.str S] (.bc [.agg p.cs,.int .i64 a,.int .i64 e])) :
  bp G (.F 478 [.ptr 0 0,.ptr 4 0] (HC S x y z tb j R) (.bc []) (HC S x y z tb { j with p:=p,at_:=a,e:=e,k1:=.no } R)):=by
 refine eB bq.ae0 (aab rfl) ?_;simp only[Po.cs] at h;simp[HC,Jb.cs];refine ax h ?_;simp
def zAB[bq G]{j:Jb}{f:List (List V)}{e:Int}(h:FP G 428 [.agg j.p.cs] (.bc [.vs f .no,.int .i64 e])) :
  bp G (.F 479 [.ptr 4 0] (HC S x y z tb j R) (.bc []) (HC S x y z tb { j with f:=f,e:=e,k2:=.no } R)):=by
 refine eB bq.ae1 (aab rfl) ?_;simp only[Po.cs] at h;simp[HC,Jb.cs];refine ax h ?_;simp
def zAC[bq G]{j:Jb}{F T:List (List V)}{n:Int}{d:Bool}{e:Int}(h:FP G 365 [.vs j.f .no,.vs tb .no,.agg (jR x y z)] (.bc [.agg [.vs F .no,.vs T .no,.int .i64 n,.bool d],.int .i64 e])) :
  bp G (.F 480 [.ptr 4 0,.ptr 5 0,.ptr 1 0] (HC S x y z tb j R) (.bc []) (HC S x y z tb { j with F:=F,T:=T,n:=n,d:=d,e:=e,k3:=.no,k4:=.no } R)):=by
 refine eB bq.ae2 (aab rfl) ?_;simp only[jR] at h;simp[HC,Jb.cs,jR];refine ax h ?_;simp
def zAD[bq G]{j:Jb}{c:List (List V)}{e:Int}(h:FP G 351 [.vs j.F .no] (.bc [.vs c .no,.int .i64 e])) :
  bp G (.F 481 [.ptr 4 0] (HC S x y z tb j R) (.bc []) (HC S x y z tb { j with oc:=c,e:=e,k6:=.no } R)):=by
 refine eB bq.ae3 (aab rfl) ?_;simp[HC,Jb.cs];refine ax h ?_;simp
def zAE[bq G]{j:Jb}{c:List (List V)}{e:Int}(h:FP G 477 [.vs j.T .no] (.bc [.vs c .no,.int .i64 e])) :
  bp G (.F 482 [.ptr 4 0] (HC S x y z tb j R) (.bc []) (HC S x y z tb { j with ot:=c,e:=e,k7:=.no } R)):=by
 refine eB bq.ae4 (aab rfl) ?_;simp[HC,Jb.cs];refine ax h ?_;simp
end
def ur:Jb:=⟨⟨[],0⟩,[],[],[],0,false,[],[],[],0,false,0,0,.full,.full,.full,.full,.full,.full,.full⟩
def fK:ae:=[some (.cells [.fn 478 [.ptr 0 0,.ptr 4 0],.fn 479 [.ptr 4 0],.fn 480 [.ptr 4 0,.ptr 5 0,.ptr 1 0],.fn 481 [.ptr 4 0],.fn 482 [.ptr 4 0]])]
def zBs{S:List UInt8}{x y z:Int}{tb:List (List V)}{j:Jb}(h:aX 7 j.cs=j.cs):ai 7 (HC S x y z tb j fK)=HC S x y z tb j fK:=by simp[ai,HC,fK,aw.cl,aX,V.cl,Tk.cl,jR,x8];simpa[aX] using h
def zys{S:List UInt8}{x y z:Int}{tb:List (List V)}{j:Jb}:(HC S x y z tb j fK).length=7:=rfl
def zur[bq G]{S:List UInt8}{tab:List (List V)}{x y z:Int}{tb:List (List V)}{te:Int}{p:Po}{a e:Int}(d:(e !=0)=true)(hd:FP G 476 [.vs tab .no] (.bc [.vs tb .no,.int .i64 te]))(h:FP G 467 [.str S] (.bc [.agg p.cs,.int .i64 a,.int .i64 e])) :
  FP G 483 [.str S,.vs tab .no,.agg (jR x y z)] (.bc [.agg [.vs [] .no,.vs [] .no,.vs [] .no,.int .i64 0,.bool false],.int .i64 a,.int .i64 e]):=by
 refine bF bq.ae5 (aab rfl) ?_;have c:=ztD (S:=S) (x:=x) (y:=y) (z:=z) (tb:=tb) (R:=fK) (j:=ur) h;obtain⟨j,b⟩:∃ j:Jb,j={ ur with p:=p,at_:=a,e:=e,k1:=.no }:=⟨_,rfl⟩;rw[<-b] at c;have f:=zBs (S:=S) (x:=x) (y:=y) (z:=z) (tb:=tb) (j:=j) (by rw[b];simp[Jb.cs,ur,aX,V.cl,Tk.cl]);have g:=zys (S:=S) (x:=x) (y:=y) (z:=z) (tb:=tb) (j:=ur)
 have k:j.at_=a:=by rw[b]
 have l:j.e=e:=by rw[b]
 simp[jR];refine ax hd ?_;simp;refine aP 1 (fun i=>[(6,.ptr 2 0),(9,.ptr 4 0),(28,.rs 6 0 5 1),(29,.int .i64 5),(30,.int .i64 i)]) (fun _=>HC S x y z tb ur fK) (fun i=>i=0) ?_ ?_
 ·simp[aq,ai,HC,fK,jR,x8,ur,Jb.cs,RL,aw.cl,aX,V.cl,Tk.cl]
 rintro i hi rfl;have m:(HC S x y z tb ur fK)[6]?=some (some (.cells [.fn 478 [.ptr 0 0,.ptr 4 0],.fn 479 [.ptr 4 0],.fn 480 [.ptr 4 0,.ptr 5 0,.ptr 1 0],.fn 481 [.ptr 4 0],.fn 482 [.ptr 4 0]])):=rfl;simp[m];refine jL (by simpa using c) (fun h=>by simp at h) ?_;rw[g,f];simp[HC,Jb.cs,k,l,d,jR,x8]
def zus[bq G]{S:List UInt8}{tab:List (List V)}{x y z:Int}{tb:List (List V)}{te:Int}{J:Nat->Jb}(q:J 0=ur)(hd:FP G 476 [.vs tab .no] (.bc [.vs tb .no,.int .i64 te]))
  (r:bp G (.F 478 [.ptr 0 0,.ptr 4 0] (HC S x y z tb (J 0) fK) (.bc []) (HC S x y z tb (J 1) fK)))
  (s:bp G (.F 479 [.ptr 4 0] (HC S x y z tb (J 1) fK) (.bc []) (HC S x y z tb (J 2) fK)))
  (t:bp G (.F 480 [.ptr 4 0,.ptr 5 0,.ptr 1 0] (HC S x y z tb (J 2) fK) (.bc []) (HC S x y z tb (J 3) fK)))
  (u:bp G (.F 481 [.ptr 4 0] (HC S x y z tb (J 3) fK) (.bc []) (HC S x y z tb (J 4) fK)))
  (v:bp G (.F 482 [.ptr 4 0] (HC S x y z tb (J 4) fK) (.bc []) (HC S x y z tb (J 5) fK)))
  (w:∀ i,i<=5->aX 7 (J i).cs=(J i).cs) (c:∀ i,1<=i->i<=5->(J i).e=0) :
  FP G 483 [.str S,.vs tab .no,.agg (jR x y z)] (.bc [.agg [.vs (J 5).F .no,.vs (J 5).oc .no,.vs (J 5).ot .no,.int .i64 (J 5).n,.bool (J 5).d],.int .i64 0,.int .i64 0]):=by
 refine bF bq.ae5 (aab rfl) ?_;have a:=fun i hi=>zBs (S:=S) (x:=x) (y:=y) (z:=z) (tb:=tb) (w i hi);have b:=fun i=>zys (S:=S) (x:=x) (y:=y) (z:=z) (tb:=tb) (j:=J i);simp[jR];refine ax hd ?_;simp;refine aP 5 (fun i=>[(6,.ptr 2 0),(9,.ptr 4 0),(28,.rs 6 0 5 1),(29,.int .i64 5),(30,.int .i64 i)]) (fun i=>HC S x y z tb (J i) fK) (fun i=>True) ?_ ?_
 ·simp[aq,ai,HC,fK,jR,x8,q,ur,Jb.cs,RL,aw.cl,aX,V.cl,Tk.cl]
 intro i hi _;have f:∀ i,(HC S x y z tb (J i) fK)[6]?=some (some (.cells [.fn 478 [.ptr 0 0,.ptr 4 0],.fn 479 [.ptr 4 0],.fn 480 [.ptr 4 0,.ptr 5 0,.ptr 1 0],.fn 481 [.ptr 4 0],.fn 482 [.ptr 4 0]])):=fun _=>rfl;have g:∀ i,(HC S x y z tb (J i) fK)[3]?=some (some (.cells (J i).cs)):=fun _=>rfl;have k:∀ i,(HC S x y z tb (J i) fK)[4]?=some (some (.cells [.ptr 3 0])):=fun _=>rfl;have l:∀ i (h:3<(HC S x y z tb (J i) fK).length),(HC S x y z tb (J i) fK)[3]'h=some (.cells (J i).cs):=fun _ _=>rfl
 have m:∀ i (h:4<(HC S x y z tb (J i) fK).length),(HC S x y z tb (J i) fK)[4]'h=some (.cells [.ptr 3 0]):=fun _ _=>rfl
 rcases aaP hi with p|A
 ·subst p;simp[HC,Jb.cs,jR,x8,aq]
 have nx:∀ i,i<5->(J (i+1)).e=0:=fun i h=>c _ an an;have o:∀ i,(J i).cs.length=14:=fun _=>rfl;have kd:∀ i,((J i).cs.drop 13).take 1=[.int .i64 (J i).e]:=fun _=>rfl
 have:i=0\/i=1\/i=2\/i=3\/i=4:=an
 rcases this with rfl|rfl|rfl|rfl|rfl
 ·simp[f];refine jL (by simpa using r) (fun h=>by simp at h) ?_;rw[b,a 1 (by decide)];simp[g,k,l,m,o,kd,nx,aq,b,a,show aD .i64 0 1=1 by decide]
 ·simp[f];refine jL (by simpa using s) (fun h=>by simp at h) ?_;rw[b,a 2 (by decide)];simp[g,k,l,m,o,kd,c,aq,b,a,show aD .i64 1 1=2 by decide]
 ·simp[f];refine jL (by simpa using t) (fun h=>by simp at h) ?_;rw[b,a 3 (by decide)];simp[g,k,l,m,o,kd,c,aq,b,a,show aD .i64 2 1=3 by decide]
 ·simp[f];refine jL (by simpa using u) (fun h=>by simp at h) ?_;rw[b,a 4 (by decide)];simp[g,k,l,m,o,kd,c,aq,b,a,show aD .i64 3 1=4 by decide]
 ·simp[f];refine jL (by simpa using v) (fun h=>by simp at h) ?_;rw[b,a 5 (by decide)];simp[g,k,l,m,o,kd,c,aq,b,a,show aD .i64 4 1=5 by decide]
open Go Go.RowKit
variable {G:aN}
def sC:Nat->Nat->List Nat
 | 0,n=>[n%16]
 | m+1,n=>if n<16 then [n%16] else sC m (n/16)++[n%16]
def QO:∀(m n:Nat),n<16^(m+1)->(∀ d∈sC m n,d<16)/\1<=(sC m n).length/\(sC m n).length<=m+1/\((sC m n).head?=some 0->(sC m n).length=1/\n=0)/\gA (sC m n)=n
 | 0,n,h=>by
  have:n%16=n:=aay (by simpa using h);simp[sC,this,gA]
  simpa using h
 | m+1,n,h=>by
  unfold sC;split
  ·rename_i a;have:n%16=n:=aay a;simp[this,gA,a]
  ·rename_i a;obtain⟨e,b,i,f,g⟩:=QO m (n/16) (by rw[abu] at h;omega);refine⟨fun d hd=>?_,ir,by simp;omega,fun c=>?_,by rw[En,g];omega⟩
   ·rcases aah.1 hd with hd|hd
    ·exact e d hd
    ·simp at hd;omega
   ·have:(sC m (n/16)).head?=some 0:=by
     cases hd:sC m (n/16) with
     | nil=>rw[hd] at b;simp at b
     | cons x l=>rw[hd] at c;simpa using c
    have:=(f this).2;omega
def zEc{d:Nat}(h:d<16):jz d=aaT (if 9<d then 87+d else 48+d):=by
 unfold jz
 congr 1
 split<;>split<;>omega
def zpM[db G]:∀(m n:Nat),m<=100->n<16^(m+1)->n<18446744073709551616->FP G 430 [.int .u64 n] (.str ((sC m n).map jz))
 | m,n,z,k,w=>by
  obtain⟨d,hd⟩:∃ d,d=n%16:=⟨_,rfl⟩
  have x:d<16:=an
  have g:oE (n:Int) 16=((d:Nat):Int):=by rw[hd];exact E7 (b:=16)
  have q1:lY .u64 (n:Int) 16=((n/16:Nat):Int):=zBy (b:=16) w;have i:aD .u64 48 (d:Int)=((48+d:Nat):Int):=IntWalk.u64_in _ ⟨an,an⟩;have l:aD .u64 87 (d:Int)=((87+d:Nat):Int):=IntWalk.u64_in _ ⟨an,an⟩;have j:=Z1 (a:=48+d) an;have o:=Z1 (a:=87+d) an;have p:=zEc x;have e:=(QO m n k).2.2.1;have A:∀ s:List UInt8,s.length<=101->(s.length<=9223372036854775806)=True:=fun s h=>eq_true an
  refine bF db.aeD (aab rfl) ?_
  by_cases q:n<16
  ·have e:((n:Int)<16)=True:=eq_true an
   have r:sC m n=[d]:=by cases m<;>simp[sC,q,hd]
   rw[r,aaS,aa8,p]
   by_cases f:9<d
   ·have c:(9<(d:Int))=True:=eq_true an;simp[g,i,l,j,o,c,f,e,-aaa]
   ·have c:(9<(d:Int))=False:=eq_false an;simp[g,i,j,c,f,e,-aaa]
  ·cases m with
   | zero=>simp at k;omega
   | succ m =>
   have e:((n:Int)<16)=False:=eq_false an
   have t:n/16<16^(m+1):=by rw[abu] at k;omega
   have u:=zpM m (n/16) an t an;have r:=(QO m (n/16) t).2.2.1;have v:((sC m (n/16)).length<=9223372036854775806)=True:=eq_true an
   have y:sC (m+1) n=sC m (n/16)++[d]:=by simp[sC,q,hd]
   rw[y,aan,aaS,aa8,p]
   by_cases f:9<d
   ·have c:(9<(d:Int))=True:=eq_true an;simp[g,q1,i,l,j,o,c,f,e,-aaa,-aaV];refine ax u ?_;simp[v]
   ·have c:(9<(d:Int))=False:=eq_false an;simp[g,q1,i,j,c,f,e,-aaa,-aaV];refine ax u ?_;simp[v]
def Jn[db G](n:Nat)(a:n<18446744073709551616):FP G 431 [.int .u64 n] (.str (bg n)):=by have h:=zpM (G:=G) 15 n (by decide) (by simpa using a) a;obtain⟨c,d,g,e,f⟩:=QO 15 n (by simpa using a);have b:=(zrU c d an (fun h=>(e h).1)).2;rw[f] at b;rw[b];refine bF db.aeE (aab rfl) ?_;simp;refine ax h ?_;simp[show(2+(sC 15 n).length<=9223372036854775807)=True from eq_true an]
def iS(v:Nat):List UInt8:=if dE v then gW v else []
def Yf[db G][jd G](v:Nat)(j:v<4294967296):FP G 432 [.int .u32 v] (.str (iS v)):=by
 refine bF jd.aeF (aab rfl) ?_
 by_cases q:327680<=v/\v<=331775
 ·have c:(327680<=(v:Int))=True:=eq_true an;have l:((v:Int)<=331775)=True:=eq_true an;have m:=Jn (G:=G) (v-327680) an;have r:=G9 (v-327680)
  have n:cM .u32 (v:Int) 327680=((v-327680:Nat):Int):=by rw[Na j];omega
  have o:fB .u64 ((v-327680:Nat):Int)=((v-327680:Nat):Int):=IntWalk.u64_in _ ⟨an,an⟩
  have b:iS v=jH++bg (v-327680):=by
   have d:dE v=true:=by simp[dE];omega
   have:=D_ d;rw[iS,if_pos d];have a:=Yg (k:=v-327680) an;rw[show 327680+(v-327680)=v by omega] at a;exact(z8 a).2
  rw[b];generalize bg (v-327680)=T at *;generalize v-327680=k at *;simp[c,l,n,o];refine ax m ?_;simp[jH,show(6+T.length<=9223372036854775807)=True from eq_true an]
 ·have c:(decide (327680<=(v:Int))&&decide ((v:Int)<=331775))=false:=by simp only[Bool.and_eq_false_iff,decide_eq_false_iff_not];omega
  by_cases a:v=0\/v=196608\/v=2147221504\/v=2147418112
  ·rcases a with rfl|rfl|rfl|rfl
   ·rw[show iS 0=[107,105,108,108] by decide];simp
   ·rw[show iS 196608=[116,114,97,112] by decide];simp
   ·rw[show iS 2147221504=[108,111,103] by decide];simp
   ·rw[show iS 2147418112=[97,108,108,111,119] by decide];simp
  ·have b:iS v=[]:=by
    have:dE v=false:=by simp[dE];omega
    rw[iS,this];rfl
   rw[b]
   have e:((v:Int)==0)=false:=by simp;omega
   have f:((v:Int)==196608)=false:=by simp;omega
   have g:((v:Int)==2147221504)=false:=by simp;omega
   have h:((v:Int)==2147418112)=false:=by simp;omega
   by_cases i:(327680:Int)<=(v:Int)
   ·have p:((v:Int)<=331775)=False:=eq_false an;simp[i,p,e,f,g,h]
   ·simp[i,e,f,g,h]
def bX(l:List (List UInt8)):List (List V):=l.map fun w=>[.str w]
def zww(a:List (List UInt8))(w:List UInt8):bX a++[[.str w]]=bX (a++[w]):=by simp[bX]
@[simp] theorem zEd (a:List (List UInt8)):(bX a).length=a.length:=by simp[bX]
theorem Ba{l:List (List UInt8)}{i:Nat}{x:List UInt8}(h:l[i]?=some x):(bX l)[i]?=some [.str x]:=by simp[bX,h]
def ztE(a:List (List UInt8)):(∀ f∈bX a,f.length=1)=True:=by simp only[eq_iff_iff,iff_true];intro f b;simp only[bX,aag] at b;obtain⟨_,_,rfl⟩:=b;rfl
def kH(m:UInt8):List (List UInt8)×List UInt8->List UInt8->List (List UInt8)×List UInt8
 | q,[]=>q
 | q,b::s=>if b=m then kH m (q.1++[q.2],[]) s else kH m (q.1,q.2++[b]) s
def Yh(m:UInt8):∀(s:List UInt8) (q:List (List UInt8)×List UInt8),(kH m q s).1++[(kH m q s).2]=q.1++(match fP m s with|[]=>[]|w::r=>(q.2++w)::r)
 | [],q=>by simp[kH,fP]
 | b::s,q=>by
  have c:=A5 m s;unfold kH fP
  by_cases h:b=m
  ·rw[if_pos h,if_pos h,Yh m s]
   cases a:fP m s with
   | nil=>exact absurd a c
   | cons w r=>simp
  ·rw[if_neg h,if_neg h,Yh m s]
   cases a:fP m s with
   | nil=>exact absurd a c
   | cons w r=>simp
def ztF(m:UInt8):∀(a b:List UInt8) (q:List (List UInt8)×List UInt8),kH m q (a++b)=kH m (kH m q a) b
 | [],b,q=>rfl
 | x::a,b,q=>by
  simp only[aaU,kH]
  split<;>exact ztF m a b _
def Yi(m:UInt8):∀(s:List UInt8) (q:List (List UInt8)×List UInt8),(kH m q s).1.length<=q.1.length+s.length/\(kH m q s).2.length<=q.2.length+s.length
 | [],q=>by simp[kH]
 | b::s,q=>by
  unfold kH;split
  ·have:=Yi m s (q.1++[q.2],[]);simp at this |-;omega
  ·have:=Yi m s (q.1,q.2++[b]);simp at this |-;omega
def Yj[iV G](s:List UInt8)(m:UInt8)(E:s.length<=1000000):FP G 486 [.str s,.int .u8 (m.toNat:Nat)] (.vs (bX (fP m s)) .no):=by
 refine bF iV.ae6 (aab rfl) ?_;obtain⟨C,c⟩:∃ C:Nat->List (List UInt8)×List UInt8,∀ i,C i=kH m ([],[]) (s.take i):=⟨_,fun _=>rfl⟩
 have d:∀ i,(C i).1.length<=1000000/\(C i).2.length<=1000000:=fun i=>by
  have:=Yi m (s.take i) ([],[]);rw[<-c] at this;simp at this;omega
 have q:∀ i b,s[i]?=some b->C (i+1)=if b=m then((C i).1++[(C i).2],[]) else((C i).1,(C i).2++[b]):=by intro i b e;rw[c,c,aao,e,ztF];simp only[Option.toList,kH]
 have t:fP m s=(C s.length).1++[(C s.length).2]:=by
  rw[c,aau,Yh];have u:=A5 m s
  cases v:fP m s with
  | nil=>exact absurd v u
  | cons w r=>simp
 have j:C 0=([],[]):=by rw[c];rfl
 rw[t];simp;refine aP s.length (fun i=>[(0,.str s),(1,.int .u8 (m.toNat:Nat)),(5,.vs (bX (C i).1) (.own 0)),(6,.str (C i).2),(7,.int .i64 i)]) (fun i=>[some (.zone (C i).1.length)]) (fun _=>True) ?_ ?_
 ·simp[aq,ai,j,bX]
 intro i hi _;obtain⟨F,H⟩:=d i
 have l:((C i).1.length+1)*16<=140737488355328:=an
 have n:=zww (C i).1 (C i).2;have o:=ztE (C i).1
 rcases aaP hi with x|f
 ·subst x;simp[l,o,n]
 ·obtain⟨b,e⟩:∃ b,s[i]?=some b:=⟨_,aac f⟩;obtain⟨_,k⟩:=aae.1 e;have a:=q i b e
  have p:aD .i64 (i:Int) 1=((i+1:Nat):Int):=by rw[dW]<;>omega
  by_cases g:b=m
  ·rw[if_pos g] at a;subst g;simp(disch:=omega)[f,k,l,o,n,a,p,aq,ai,-aaa]
  ·rw[if_neg g] at a;have y:((b.toNat:Int)==(m.toNat:Int))=false:=G_ fun h=>g (UInt8.toNat_inj.1 h);have z:((i:Int)<=((i+1:Nat):Int))=True:=eq_true an;have A:(((i+1:Nat):Int)<=(s.length:Int))=True:=eq_true an
   have B:(s.drop i).take 1=[b]:=by rw[aaI f,k];rfl
   have D:((C i).2.length+1<=9223372036854775807)=True:=eq_true an;simp(disch:=omega)[f,k,y,a,p,z,A,B,D,aq,ai,-aaa]
end Go.Ev
