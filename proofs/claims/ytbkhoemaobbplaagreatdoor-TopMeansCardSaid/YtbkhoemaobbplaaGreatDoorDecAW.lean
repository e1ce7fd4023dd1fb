/- Whether two windows differ: decide.Differs, hurdleref18.Differs. -/
import Derived.Test.YtbkhoemaobbplaaGreatDoorEvWinCW
import Derived.Test.YtbkhoemaobbplaaGreatDoorLowLW
import Derived.Test.YtbkhoemaobbplaaGreatDoorEvXW
import Derived.Test.YtbkhoemaobbplaaGreatDoorEvIW
import Derived.KernelRfl
set_option linter.defProp false
set_option linter.unusedSimpArgs false
set_option linter.unusedVariables false
set_option maxHeartbeats 8000000
set_option maxRecDepth 10000
open List renaming getElem?_eq_some_iff→aaa,getElem?_eq_getElem→aae,getElem?_append_left→aal,take_of_length_le→aam,length_append→aan,drop_eq_nil_of_le→aap,mem_of_getElem?→aaq,append_assoc→aat,length_cons→aau,length_take→aav,range→aay,mem_range→aaA,mem_append→aaD,set_append_left→aaE,mem_cons→aaG,getElem?_cons_succ→aaH,mem_singleton→aaI,drop_eq_getElem_cons→aaJ,not_mem_nil→aaK,mem_of_mem_drop→aaL,take_add_one→aaM,getElem?_drop→aaQ,reduceReplicate→aaT,getElem?_cons_zero→aaU,getD→aaV,getElem_mem→aaW,take_length→aaX,all_eq_true→aaY,mem_map→aa0,getElem?_set_ne→aa2,length_drop→aa4,getD_eq_getElem?_getD→aa6,getElem?_append_right→aa7,flatMap_cons→aa8,mem_filterMap→aa_,getElem?_set_self→aba,getElem?_map→abc,getElem?_eq_none→abd,drop_drop→abe,any_eq_true→abi,mem_of_mem_take→abk,drop_succ_cons→abl,range_succ→abm,append_nil→abq,length_map→abr,find?_append→abx,map_cons→abz,map_set→abB,length_nil→abC,drop_left'→abD,eq_nil_of_length_eq_zero→abF,getD_cons_succ→abG,map_congr_left→abH,replicate→abI,find?_eq_none→abJ,getElem?_set→abO,mem_of_find?_eq_some→abP,map_nil→abQ,set_append_right→ab3,drop_zero→ab4,take_append_drop→ab5,countP_le_length→ab6,getElem?_of_mem→ab7,flatMap_append→ab_,getElem?_range→aca,map_map→ace,getElem?_take→ach,countP_append→aci,mem_replicate→acj,ext_getElem?→ack,cons_append→acp,mem_flatMap→acr,take_left'→acx,map_append→acy,set_comm→acz,set_set→acA
open Int renaming natCast_add→aab,eq_ofNat_of_zero_le→aa3,natCast_emod→abh,natCast_mul→abn,natCast_ediv→abA,toNat_natCast→abK,natCast_pow→acu
open Bool renaming and_eq_true→aad,false_eq_true→aax,true_and→aaS,or_eq_false_iff→aa9,or_eq_true→abE,not_eq_true→abS,false_and→ab0,and_eq_false_iff→ab1
open Nat renaming le_of_ble_eq_true→aah,lt_succ_iff_lt_or_eq→aaz,le_refl→aaF,zero_add→aa5,add_zero→abt,mod_lt→abv,succ_mul→abU,lt_of_le_of_lt→acb,add_comm→acd,mod_eq_of_lt→acs,min_eq_left→acv,le_trans→acB,pow_mul→acC
open Function renaming comp_def→aaw,comp→ab9
open Option renaming map→aaB,some→abb,map_some→abZ,toList_some→acg
open UInt8 renaming ofNat→aaZ
namespace Go.Ev
open Go Go.RowKit
variable {G:aM}
def yL(live p:Nat):Bool:=live/2^p%2==1
def xM(live:Nat)(x y:List Nat)(p:Nat):Bool:=yL live p&&(x.getD p 0 !=y.getD p 0)
def Qs(live:Nat)(x y:List Nat):Bool:=(aay 18).any (xM live x y)
def uX(v w:List af)(live:Nat)(s:St)(d:Da):Bool :=
 if(b_ d v s).2<v.length\/(b_ d w s).2<w.length then !(decide ((b_ d v s).2<v.length)&&decide ((b_ d w s).2<w.length))
 else Qs live (eT (b_ d v s).1 d) (eT (b_ d w s).1 d)
def UQ[cN G](live p:Nat)(a:live<4294967296)(e:p<=31):FP G 307 [.int .u32 live,.int .i64 p] (.bool (yL live p)):=by
 refine bD cN.adi (aah rfl) ?_;have b:live/2^p<4294967296:=acb (Nat.div_le_self _ _) a
 have c:(((live/2^p%2:Nat):Int)==1)=yL live p:=by unfold yL;rw[Bool.eq_iff_iff,beq_iff_eq,beq_iff_eq];omega
 have d:((p:Int)<0)=False:=eq_false an;simp(disch:=omega)[Ae,zEq b,c,d,-abA,-abh,-acu]
def zqu{live:Nat}{x y:List Nat}{i:Nat}(hi:i<18)(h:xM live x y i=true):Qs live x y=true :=
 abi.2 ⟨i,aaA.2 hi,h⟩
def zsE{live:Nat}{x y:List Nat}(h:∀ j<18,xM live x y j=false):Qs live x y=false:=by rw[Qs,List.any_eq_false];intro j a;rw[h j (aaA.1 a)];decide
def zyb[dR G][dx G][az G][ay G][bQ G][cT G][aN G][cU G][cV G][cN G](v w:List af)(live:Nat)(s:St)(d:Da)(W:v.length<=maxLen)(Z:w.length<=maxLen)
  (z:∀ x∈v,x.k<4294967296) (C:∀ x∈w,x.k<4294967296) (gK:live<4294967296) (c:s.ok) (hd:d.ok) :
  FP G 308 [FL v,FL w,.int .u32 live,SV s,DV d] (.bool (aW v&&aW w&&uX v w live s d)):=by
 refine bD cN.adj (aah rfl) ?_;have GY:=Af (G:=G) v W z;have Qt:=Af (G:=G) w Z C;have sl:=JH c;have g:=C9 hd;have st:=aam (i:=18) (l:=s.cs) an;have dt:=aam (i:=9) (l:=d.cs) an;have sd:s.cs.drop 18=[]:=aap an;have dd:d.cs.drop 9=[]:=aap an;simp only[FL] at GY Qt;simp[FL,SV,DV];refine ax GY ?_
 cases hv:aW v with
 | false=>simp
 | true =>
  simp;refine ax Qt ?_
  cases hw:aW w with
  | false=>simp
  | true =>
   have D:=ztu (G:=G) v s d W z c hd hv;have b:=ztu (G:=G) w s d Z C c hd hw;have o:=E6 hd v s c z;have r:=E6 hd w s c C;have Cf:=E7 d v s;have Cg:=E7 d w s;have E:uX v w live s d=uX v w live s d:=rfl
   conv at E=>rhs;unfold uX
   obtain⟨A,F⟩:∃ A,A=(b_ d v s).1:=⟨_,rfl⟩;obtain⟨n,H⟩:∃ n,n=(b_ d v s).2:=⟨_,rfl⟩;obtain⟨B,I⟩:∃ B,B=(b_ d w s).1:=⟨_,rfl⟩;obtain⟨m,J⟩:∃ m,m=(b_ d w s).2:=⟨_,rfl⟩;rw[<-F,<-H] at D;rw[<-I,<-J] at b;rw[<-F,<-I,<-H,<-J] at E;rw[<-F] at o;rw[<-I] at r;rw[<-H] at Cf;rw[<-J] at Cg;rw[E];have al:=JH o;have bl:=JH r;have K:=aam (i:=18) (l:=A.cs) an;have L:=aam (i:=18) (l:=B.cs) an
   have x1:=zol (G:=G) A d o hd;have x2:=zol (G:=G) B d r hd
   have t:(eT A d).length=34:=by rw[<-UR hd];exact UT o hd an
   have u:(eT B d).length=34:=by rw[<-UR hd];exact UT r hd an
   obtain⟨X,M⟩:∃ X,X=eT A d:=⟨_,rfl⟩;obtain⟨Y,N⟩:∃ Y,Y=eT B d:=⟨_,rfl⟩;rw[<-M] at x1 t;rw[<-N] at x2 u;simp only[FL,SV,DV] at D b x1 x2;simp[sl,g,st,dt,lD,yK,L7,Cb];refine ax D ?_;simp[sl,g,st,dt,al,lD,yK,L7,Cb];refine ax b ?_;have c1:((n:Int)<(v.length:Int))=(n<v.length):=propext an;have c2:((m:Int)<(w.length:Int))=(m<w.length):=propext an;simp[bl,c1,c2]
   by_cases y:n<v.length
   ·by_cases e:m<w.length
    ·simp[y,e]
    ·simp[y,e]
   by_cases e:m<w.length
   ·simp[y,e]
   simp[y,e,g,dt,al,K,lD,yK,L7,Cb];refine ax x1 ?_;simp[g,dt,bl,L,lD,yK,L7,Cb];refine ax x2 ?_;have xt:=aam (i:=34) (l:=au .u32 X) (by simp;omega);have yt:=aam (i:=34) (l:=au .u32 Y) (by simp;omega);have xd:(au .u32 X).drop 34=[]:=aap (by simp;omega);have yd:(au .u32 Y).drop 34=[]:=aap (by simp;omega);simp[t,u]
   refine aQ 18 (fun i=>[(2,.int .u32 live),(17,.ptr 4 0),(18,.ptr 5 0),(63,.int .i64 i)])
    (fun i=>[some (.cells s.cs),some (.cells d.cs),some (.cells A.cs),some (.cells B.cs),some (.cells (au .u32 X)),some (.cells (au .u32 Y))]) (fun i=>∀ j<i,xM live X Y j=false) ?_ ?_
   ·simp[av,aj,lD,yK]
   intro i hi O
   by_cases P:i<18
   ·have iH:=UQ (G:=G) live i gK an;have Q:=sI .u32 X i an;have R:=sI .u32 Y i an
    have gx:X.getD i 0=X[i]'(by omega):=by simp[aaV,aae (show i<X.length by omega)]
    have gy:Y.getD i 0=Y[i]'(by omega):=by simp[aaV,aae (show i<Y.length by omega)]
    have a:xM live X Y i=xM live X Y i:=rfl
    conv at a=>rhs;rw[xM,gx,gy]
    obtain⟨p,JI⟩:∃ p,p=X[i]'(by omega):=⟨_,rfl⟩;obtain⟨q,f⟩:∃ q,q=Y[i]'(by omega):=⟨_,rfl⟩;rw[<-JI,<-f] at a;rw[<-JI] at Q;rw[<-f] at R;simp(disch:=omega)[bM];refine ax iH ?_
    cases b:yL live i with
    | false =>
     rw[b,ab0] at a
     have S:∀ j<i+1,xM live X Y j=false:=fun j T=>by
      rcases aaz.1 T with h|rfl
      ·exact O j h
      ·exact a
     simp(disch:=omega)[P,bH,av,aj,lD,yK,-aab]
     exact S
    | true =>
     rw[b,aaS] at a
     by_cases U:p=q
     ·have V:xM live X Y i=false:=by rw[a,U];simp
      have S:∀ j<i+1,xM live X Y j=false:=fun j T=>by
       rcases aaz.1 T with h|rfl
       ·exact O j h
       ·exact V
      simp(disch:=omega)[bM,aC,P,t,u,Q,R,U,bH,av,aj,lD,yK,-aab];exact S
     ·have V:xM live X Y i=true:=by rw[a];simp[U]
      have:=zqu P V;simp(disch:=omega)[bM,aC,t,u,Q,R,kO (show(p:Int)≠q by omega),this,<-M,<-N]
   ·have aB:i=18:=an
    subst aB;simp[zsE O,<-M,<-N]
variable {L L':List Nd} {v:List Nat}
structure MI (v:List Nat) (s:MS):Prop where
 inv:Inv s.L
 len:s.ids.length=s.made.length
 ok:UU s.made
 rel:∀(i:Nat) (x:Int) (a:Md) (o:Option Nat),s.ids[i]?=some x->s.made[i]?=some a->(refs v s.made)[i]?=some o ->
  a.kind=4/\x=-1/\o=none\/a.kind≠4/\∃ n:Nat,x=n/\n<s.L.length/\dj v s.L n=o
variable {H:ae} {b z m:Nat} {L:List Nd}
def L8(f g:List Nat):Option Nat:=(aay 34).find? fun i=>decide (f.getD (i+1) 0≠g.getD (i+1) 0)
def xN(f g:List Nat):List Nat×Bool:=if f.headD 0≠g.headD 0 then(aP 34,true) else match L8 f g with
 | some i=>((aP 34).set i 1,true)
 | none=>(aP 34,false)
def zyc(f g:List Nat):(xN f g).1.length=34:=by
 rw[xN];split
 ·simp
 ·split<;>simp
def zzq(f g:List Nat):∀ x∈(xN f g).1,x<4294967296:=by
 rw[xN];split
 ·exact wF 34
 ·split
  ·intro x a
   rcases List.mem_or_eq_of_mem_set a with h|rfl
   ·exact wF 34 x h
   ·decide
  ·exact wF 34
def zzr[bS G](f g:List Nat)(y:f.length=35)(z:g.length=35):FP G 255 [.agg (au .u32 f),.agg (au .u32 g)] (.a_ [.agg (au .u32 (xN f g).1),.bool (xN f g).2]):=by
 refine bD bS.adk (aah rfl) ?_
 obtain⟨c,t,rfl⟩:∃ c t,f=c::t:=by cases f with|nil=>simp at y|cons c t=>exact⟨c,t,rfl⟩
 obtain⟨d,u,rfl⟩:∃ c t,g=c::t:=by cases g with|nil=>simp at z|cons c t=>exact⟨c,t,rfl⟩
 have a:t.length=34:=by simpa using y
 have b:u.length=34:=by simpa using z
 have A:au .u32 (c::t)=.int .u32 (c:Int)::au .u32 t:=rfl;have hd:au .u32 (d::u)=.int .u32 (d:Int)::au .u32 u:=rfl;have F:=fe (k:=.u32) a;have H:=fe (k:=.u32) b
 have h:∀(i:Nat) (x:V) (l:List V),(x::l).drop (1+i)=l.drop i:=fun i x l=>by rw[acd,abl]
 have o:(au .u32 (aP 34)).drop 34=[]:=rfl
 by_cases p:c=d
 case neg =>
  have K:((c:Int)==(d:Int))=false:=aO an
  have m:xN (c::t) (d::u)=(aP 34,true):=by simp[xN,p]
  simp[-aaT,A,hd,a,b,o,m,kO,p]
 subst p
 have bne:((c:Int) !=(c:Int))=false:=by simp
 simp[-aaT,A,hd,a,b,F]
 refine aQ 34 (fun i=>[(3,.ptr 1 0),(4,.ptr 2 0),(6,.ptr 3 0),(16,.agg (au .u32 t)),(17,.int .i64 i)])
  (fun i=>[some (.cells (.int .u32 (c:Int)::au .u32 t)),some (.cells (.int .u32 (c:Int)::au .u32 u)),some (.cells (au .u32 (aP 34))),some (.cells (au .u32 (aP 34)))]) (fun i=>∀ j,j<i->t.getD j 0=u.getD j 0) ?_ ?_
 ·simp[av,aj,aX,V.cl]
 intro i hi q
 by_cases r:i<34
 ·have q1:=De .u32 (kP (show i<t.length by omega));have B:=De .u32 (kP (show i<u.length by omega))
  have C:t.getD i 0=t[i]'(by omega):=by rw[aa6,kP an];rfl
  have D:u.getD i 0=u[i]'(by omega):=by rw[aa6,kP an];rfl
  by_cases s:t[i]' an=u[i]' an
  ·have I:∀ j,j<i+1->t.getD j 0=u.getD j 0:=fun j n=>by
    by_cases e:j=i
    ·subst e;rw[C,D,s]
    ·exact q j an
   simp(disch:=omega)[bM,leFn,aC,r,a,b,q1,B,h,s,bH,-aab,av,aj,aX,V.cl];simpa using I
  ·have J:((t[i]'(by omega):Nat):Int)≠((u[i]'(by omega):Nat):Int):=an
   have v:L8 (c::t) (c::u)=some i:=by
    rw[L8,List.find?_range_eq_some];refine⟨?_,aaA.2 r,fun j n=>?_⟩
    ·simp only[abG,C,D];simpa using s
    ·have:=q j n;simp only[abG];simpa using this
   have m:xN (c::t) (c::u)=((aP 34).set i 1,true):=by simp[xN,v]
   have E:=xO .u32 (aP 34) i 1 (by simpa using r);have w:(au .u32 ((aP 34).set i 1)).take 34=au .u32 ((aP 34).set i 1):=fe ir;simp(disch:=omega)[-aaT,bM,leFn,aC,a,b,q1,B,h,kO J,m,o];simp at E;simp(disch:=omega)[-aaT,E,w]
 ·obtain rfl:i=34:=by omega
  have v:L8 (c::t) (c::u)=none:=by rw[L8,abJ];intro j n;have:=q j (aaA.1 n);simp only[abG];simpa using this
  have m:xN (c::t) (c::u)=(aP 34,false):=by simp[xN,v]
  simp[-aaT,m,o]
def zzs(M:List Int)(p:Int->Bool):∀ w∈jb M p,w<4294967296:=by
 intro w a;simp only[jb,aa0] at a;obtain⟨i,_,rfl⟩:=a
 split<;>omega
def zyd(fv gv:List Int)(ft gt:List Nat):(xP fv gv ft gt).1.length=34:=by
 simp only[xP];split
 ·split<;>simp[jb]
 ·simp
def zzt(fv gv:List Int)(ft gt:List Nat):∀ x∈(xP fv gv ft gt).1,x<4294967296:=by
 simp only[xP];split
 ·split
  ·exact zzs _ _
  ·exact wF 34
 ·exact wF 34
noncomputable def Df(a c:Nd):List Nat×Bool:=if a.kind=0/\c.kind=0 then xN a.f c.f else match gg a,gg c with
 | some p,some q=>xP p.1 q.1 p.2 q.2
 | _,_=>(aP 34,false)
noncomputable def sJ(L:List Nd)(x y:Int):List Nat×Bool:=if cA L x=true/\cA L y=true/\x≠y then(match L[x.toNat]?,L[y.toNat]? with
 | some a,some c=>Df a c
 | _,_=>(aP 34,false)) else(aP 34,false)
def zwP(a c:Nd):(Df a c).1.length=34/\∀ x∈(Df a c).1,x<4294967296:=by
 rw[Df];split
 ·exact⟨zyc _ _,zzq _ _⟩
 ·split
  ·exact⟨zyd _ _ _ _,zzt _ _ _ _⟩
  ·exact⟨ir,wF 34⟩
def zwQ(L:List Nd)(x y:Int):(sJ L x y).1.length=34/\∀ c∈(sJ L x y).1,c<4294967296:=by
 rw[sJ];split
 ·split
  ·exact zwP _ _
  ·exact⟨ir,wF 34⟩
 ·exact⟨ir,wF 34⟩
def zGi{x y:Nat}{a c:Nd}(b:L[x]?=some a)(d:L[y]?=some c)(g:x≠y):sJ L x y=Df a c:=by have e:=(aaa.1 b).1;have f:=(aaa.1 d).1;rw[sJ,if_pos ⟨by simp[cA];exact e,by simp[cA];exact f,an⟩,abK,abK,b,d]
def zEG[bS G][ar G][T:dS G][aK G][bX G](x y:Int)(h:Bk H b z m L)(hi:Inv L):SF G 277 [.ptr b 0,.int .i64 x,.int .i64 y] H (.a_ [.agg (au .u32 (sJ L x y).1),.bool (sJ L x y).2]) H:=by
 haveI:bG G:=T.tobG
 refine ke bX.adl (aah rfl) ?_;obtain⟨Z,i⟩:∃ Z,Z=au .u32 (aP 34):=⟨_,rfl⟩
 have j:Z.length=34:=by rw[i];simp
 have l:Z.drop 34=[]:=aap an;have B:Z.take 34=Z:=aam an
 have o:∀ n,aX n Z=Z:=fun n=>by rw[i];simp
 have hb:∀ n,aaB (aw.cl n) (some (.cells Z))=some (.cells Z):=fun n=>by simp[aw.cl,o]
 have t:Bk (H++[some (.cells Z),some (.cells Z)]) b z m L:=h.app fun n=>by simp[aw.cl,o]
 have uY:=t.shut.self;have s:=h.shut.back;simp at uY;simp[<-i,-aaT];refine cL (G1 x t) ?_
 cases hx:cA L x with
 | false =>
  have C:sJ L x y=(aP 34,false):=by rw[sJ,if_neg (by simp[hx])]
  simp[C,<-i,j,l,B,s,o]
 | true =>
  simp;refine cL (G1 y t) ?_
  cases hy:cA L y with
  | false =>
   have C:sJ L x y=(aP 34,false):=by rw[sJ,if_neg (by simp[hy])]
   simp[C,<-i,j,l,B,s,o]
  | true =>
   by_cases U:x=y
   ·subst U
    have C:sJ L x x=(aP 34,false):=by rw[sJ,if_neg ir]
    simp[C,<-i,j,l,B,s,o]
   have vW:(x==y)=false:=aO U
   obtain⟨rM,xQ⟩:0<=x/\x<L.length:=by simpa[cA] using hx
   obtain⟨Dg,Ag⟩:0<=y/\y<L.length:=by simpa[cA] using hy
   obtain⟨J,rfl⟩:=aa3 rM;obtain⟨K,rfl⟩:=aa3 Dg;obtain⟨a,M⟩:∃ a,L[J]?=some a:=⟨_,kP an⟩;obtain⟨c,N⟩:∃ c,L[K]?=some c:=⟨_,kP an⟩;have v:=hi.cJ _ _ M;have w:=hi.cJ _ _ N;have C:sJ L J K=Df a c:=zGi M N (fun e=>U (by rw[e]));have O:=zwP a c;rw[C];have qK:(au .u32 (aP 35)).drop 35=[]:=rfl;have ta:=fe (k:=.u32) v.1.1;have tc:=fe (k:=.u32) w.1.1
   have P:∀ r:ae,(∀ n,r.map (aaB (aw.cl n))=r)->Bk (H++some (.cells Z)::some (.cells Z)::r) b z m L:=fun r V=>h.app fun n=>by simp[aw.cl,o,V n]
   have S:∀ r:ae,(∀ n,r.map (aaB (aw.cl n))=r)->aj (H.length+(r.length+1+1)) (H++some (.cells Z)::some (.cells Z)::r)=H++some (.cells Z)::some (.cells Z)::r:=fun r V=>by
    have:=(P r V).shut.self;simpa using this
   simp[vW,-aaT];refine cL (L9 J a (P [none] fun n=>by simp) M) ?_
   have s1:=S [some (.cells (au .u32 a.f))] fun n=>by simp[aw.cl]
   simp at s1;simp[v.1.1,qK];refine cL (L9 K c (P [some (.cells (au .u32 a.f)),none] fun n=>by simp[aw.cl]) N) ?_
   have s2:=S [some (.cells (au .u32 a.f)),some (.cells (au .u32 c.f))] fun n=>by simp[aw.cl]
   simp at s2;simp[w.1.1,qK];obtain⟨A,W⟩:∃ A,A=Df a c:=⟨_,rfl⟩;rw[<-W] at O |-;have X:=fe (k:=.u32) O.1
   by_cases F:a.kind=0/\c.kind=0
   ·have d:A=xN a.f c.f:=by rw[W,Df,if_pos F]
    have hf:=zzr (G:=G) a.f c.f v.1.1 w.1.1;rw[<-d] at hf;simp[F.1,F.2,v.1.1,ta,w.1.1,tc];refine ax hf ?_;simp[O.1,X,j,l,s]
   ·have he:(decide (a.kind=0)&&decide (c.kind=0))=false:=by
     rw[ab1]
     by_cases I:a.kind=0
     ·right;simpa using fun t=>F ⟨I,t⟩
     ·left;simpa using I
    have b1:=P [some (.cells (au .u32 a.f)),some (.cells (au .u32 c.f)),none] fun n=>by simp[aw.cl]
    have b2:=P [some (.cells (au .u32 a.f)),some (.cells (au .u32 c.f)),some (.cells (me (gg a))),none] fun n=>by simp[aw.cl,JK]
    have s3:=S [some (.cells (au .u32 a.f)),some (.cells (au .u32 c.f)),some (.cells (me (gg a)))] fun n=>by simp[aw.cl,JK]
    have s4:=S [some (.cells (au .u32 a.f)),some (.cells (au .u32 c.f)),some (.cells (me (gg a))),some (.cells (me (gg c)))] fun n=>by simp[aw.cl,JK]
    simp at s3 s4
    have g:∀(p q:Option (List Int×List Nat)),gg a=p->gg c=q->(p.isSome=true->q.isSome=true->∃ Y q',p=some Y/\q=some q'/\A=xP Y.1 q'.1 Y.2 q'.2)/\((p.isSome&&q.isSome)=false->A=(aP 34,false)):=fun p q ep eq=>by
     have d:=W;rw[Df,if_neg F,ep,eq] at d
     cases p<;>cases q<;>simp at d |-<;>exact d
    by_cases I:a.kind=0
    ·have t:¬c.kind=0:=fun t=>F ⟨I,t⟩;simp[I];simp[t];refine cL (G2 J a b1 M v.2.1) ?_;simp[JL,JM];refine cL (G2 K c b2 N w.2.1) ?_;simp[JL,JM]
     cases u:gg a with
     | none =>
      have d:=(g _ _ u rfl).2 rfl
      simp[d,<-i,j,l,B,s,o]
     | some p =>
      cases D:gg c with
      | none =>
       have d:=(g _ _ u D).2 rfl
       simp[d,<-i,j,l,B,s,o]
      | some q =>
       obtain⟨_,_,e1,e2,d⟩:=(g _ _ u D).1 rfl rfl;cases e1;cases e2;obtain⟨Q,xR⟩:=G3 v.2.1 u;obtain⟨R,G4⟩:=G3 w.2.1 D;have l1:=Q.1;have l2:=R.1;have l3:=Ch l1 Q.2.1;have l4:=Ch l2 R.2.1;have E:=zu9 T p.1 q.1 p.2 q.2 an an an an xR G4;rw[<-d] at E;simp only[FV] at E;simp[me];refine ax E ?_;simp[O.1,X,j,l,s]
    ·simp[I];refine cL (G2 J a b1 M v.2.1) ?_;simp[JL,JM];refine cL (G2 K c b2 N w.2.1) ?_;simp[JL,JM]
     cases u:gg a with
     | none =>
      have d:=(g _ _ u rfl).2 rfl
      simp[d,<-i,j,l,B,s,o]
     | some p =>
      cases D:gg c with
      | none =>
       have d:=(g _ _ u D).2 rfl
       simp[d,<-i,j,l,B,s,o]
      | some q =>
       obtain⟨_,_,e1,e2,d⟩:=(g _ _ u D).1 rfl rfl;cases e1;cases e2;obtain⟨Q,xR⟩:=G3 v.2.1 u;obtain⟨R,G4⟩:=G3 w.2.1 D;have l1:=Q.1;have l2:=R.1;have l3:=Ch l1 Q.2.1;have l4:=Ch l2 R.2.1;have E:=zu9 T p.1 q.1 p.2 q.2 an an an an xR G4;rw[<-d] at E;simp only[FV] at E;simp[me];refine ax E ?_;simp[O.1,X,j,l,s]
variable {L L' UX:List Nd}
def Nd.pl(a:Nd):Prop:=(a.kind=0->a=eZ a.f)/\(a.kind=1->∃ fv ft,a=u4 fv ft/\Right fv ft/\fv≠[]/\∀ i,fv=[i]->ft≠[0,ones]/\ft≠[ones,0])
def zP(x:af)(j i:Nat):Bool:=if x.op=5 then decide (j+1+x.k=i) else bf x.op&&(decide (j+1+x.jt.toNat=i)||decide (j+1+x.jf.toNat=i))
def qL(f:List af)(m i:Nat):Bool:=(aay m).any fun j=>zP (f.getD j u5) j i
def iL(f:List af)(m:Nat):List Bool:=(aay f.length).map (qL f m)
def Qw(f:List af)(m:Nat):(iL f m).length=f.length:=by simp[iL]
def UY(f:List af)(m i:Nat):qL f (m+1) i=(qL f m i||zP (f.getD m u5) m i):=by simp[qL,abm,List.any_append]
def JN(f:List af)(m i:Nat)(h:i<f.length):(iL f m)[i]?=some (qL f m i):=by simp[iL,h]
def UZ(f:List af)(m:Nat)(l:List Bool)(a:l.length=f.length)(h:∀ i,i<f.length->l[i]?=some (qL f (m+1) i)):l=iL f (m+1):=by
 refine ack fun i=>?_
 by_cases hi:i<f.length
 ·rw[h i hi,JN _ _ _ hi]
 ·rw[abd an,abd (by rw[Qw];omega)]
def U1:∀ l:List Bool,pE 1 l.length (cb l)=nS l
 | []=>rfl
 | x::l=>by
  have:=U1 l;simp only[cb] at this;simp[pE,cb,nS,this]
def zqw[az G][eI G](f:List af)(l:dB f=true)(D:∀ x∈f,x.k<4294967296):FP G 204 [FL f] (.vs (nS (iL f f.length)) .no):=by
 refine bD eI.adm (aah rfl) ?_
 have O:f.length<=4096:=by simp only[dB,aad,decide_eq_true_eq] at l;exact l.1.1
 simp(disch:=omega)[FL,aC];refine aQ f.length (fun m=>[(3,.rs 0 0 f.length 1),(9,FL f),(10,.int .i64 f.length),(11,.int .i64 m)]) (fun m=>[some (.cells (cb (iL f m)))]) (fun _=>True) ?_ ?_
 ·have:iL f 0=abI f.length false:=by
   refine ack fun i=>?_
   by_cases hi:i<f.length
   ·rw[JN _ _ _ hi,List.getElem?_replicate_of_lt hi];rfl
   ·rw[abd (by rw[Qw];omega),abd (by simp;omega)]
  simp[av,aj,FL,this]
 intro m P _;have a:=Qw f m
 by_cases d:m<f.length
 ·obtain⟨x,g⟩:∃ x,x=f[m]:=⟨_,rfl⟩;have z:=tF d;rw[<-g] at z;have g:=g.symm
  have s:f[m]?=some x:=by rw[aae d,g]
  have t:f.getD m u5=x:=by rw[aaV,s];rfl
  have E:=D x (g▸aaW d);have n:=yM (G:=G) x;have A:x.cs=[.int .i64 x.op,.int .i64 x.jt,.int .i64 x.jf,.int .u32 (x.k:Int)]:=rfl;simp[IV,A] at n;have F:=L_ l s;have u:=fun o=>E8 (o:=o) l s;have B:aE .i64 (m:Int) 1=((m+1:Nat):Int):=bH an;have H:=E9 x.k E;simp(disch:=omega)[FL,bM,z,A]
  by_cases b:x.op=5
  ·have v:(x.op==5)=true:=by simp[b]
   have I:bf x.op=false:=by rw[b];decide
   have Q:=u x.k (by simp[aU,b,show gL 5=false by decide]);have w:aE .i64 ((m+1:Nat):Int) (x.k:Int)=((m+1+x.k:Nat):Int):=qM an;have c:=Qy (iL f m) (m+1+x.k) true an
   have j:(iL f m).set (m+1+x.k) true=iL f (m+1):=by
    refine UZ f m _ (by simp[a]) fun i hi=>?_;rw[abO,JN _ _ _ hi,UY,t]
    by_cases q:m+1+x.k=i
    ·subst q;simp[zP,b,a,hi]
    ·simp[zP,b,q]
   rw[I] at n;rw[j] at c;simp(disch:=omega)[v,B,w,H,a,gO,aC,c,-aab];refine ax n ?_;simp(disch:=omega)[d,bH,av,aj,-aab]
  ·have v:(x.op==5)=false:=aO b;simp(disch:=omega)[v,-aab];refine ax n ?_;cases e:bf x.op
   ·have j:iL f m=iL f (m+1):=by refine UZ f m _ a fun i hi=>?_;rw[JN _ _ _ hi,UY,t];simp[zP,b,e]
    rw[j];simp(disch:=omega)[d,bH,av,aj,-aab]
   ·obtain⟨R,S,T,U⟩:=F e
    have r:gL x.op=false:=by
     have y:∀ p∈[21,37,53,69,29,45,61,(77:Int)],gL p=false:=by decide
     exact y _ (by simpa[bf] using e)
    have J:=u x.jt.toNat (by simp[aU,r,b,e]);have K:=u x.jf.toNat (by simp[aU,r,b,e])
    have w:aE .i64 ((m+1:Nat):Int) x.jt=((m+1+x.jt.toNat:Nat):Int):=by rw[ey]<;>omega
    have L:aE .i64 ((m+1:Nat):Int) x.jf=((m+1+x.jf.toNat:Nat):Int):=by rw[ey]<;>omega
    have c:=Qy (iL f m) (m+1+x.jt.toNat) true an;have C:=Qy ((iL f m).set (m+1+x.jt.toNat) true) (m+1+x.jf.toNat) true (by rw[List.length_set];omega)
    have j:((iL f m).set (m+1+x.jt.toNat) true).set (m+1+x.jf.toNat) true=iL f (m+1):=by
     refine UZ f m _ (by simp[a]) fun i hi=>?_;rw[abO,abO,JN _ _ _ hi,UY,t]
     by_cases q:m+1+x.jt.toNat=i<;>by_cases M:m+1+x.jf.toNat=i<;>simp[zP,b,e,q,M,a,hi]
    rw[j] at C;simp(maxSteps:=20000) (disch:=omega)[B,w,L,-aab];simp[J,a,-aab];simp(disch:=omega)[aC,c,-aab];simp[K,-aab];simp(disch:=omega)[a,aC,C,-aab];simp(disch:=omega)[d,bH,av,aj,-aab]
 ·have r:m=f.length:=an
  subst r
  have N:pE 1 f.length (cb (iL f f.length))=nS (iL f f.length):=by have h:=U1 (iL f f.length);rw[a] at h;exact h
  simp(disch:=omega)[a,N]
end Go.Ev
namespace Go.Ev
open Go Go.RowKit
variable {G:aM}
variable {L L':List Nd} {l:List Md}
inductive Mb (s:MS) (a:Md):Md->Int×List Nd->Prop
 | none {b p}:b.kind=4->Mb s a b p
 | con {b}:b.kind=0->b.c=a.c->Mb s a b (ba s.L (eZ (a.c::aP 34)))
 | var {b}:b.kind=1->0<=b.i->b.i<34->Mb s a b (lE s.L b.i)
 | alu {b}:b.kind=2->(dm b.op 0 1).2=true->U3 s.made b.x=true->U3 s.made b.y=true->Mb s a b (ik s.L b.op (U4 s.ids b.x) (U4 s.ids b.y))
 | neg {b}:b.kind=3->U3 s.made b.x=true->Mb s a b (nV s.L (U4 s.ids b.x))
def xS(i:Nat):List Nat:=[0,4294967295,1,2147483648,3+7*i,16843009*(i+1),2,65535,1431655765,2863311530*2^(i%3)%4294967296,i%2,i*2654435769%4294967296]
def mf(k:Nat):List Nat:=(aay 34).map fun i=>(xS i).getD k 0
def G6(k:Nat):(mf k).length=34:=by simp[mf]
def zzu{i:Nat}(hi:i<34):∀ x∈xS i,x<4294967296:=by
 intro x a;simp only[xS,aaG,aaK,or_false] at a
 rcases a with rfl|rfl|rfl|rfl|rfl|rfl|rfl|rfl|rfl|rfl|rfl|rfl<;>omega
def zEH(k:Nat):∀ x∈mf k,x<4294967296:=by
 intro x a;simp only[mf,aa0,aaA] at a;obtain⟨i,hi,rfl⟩:=a;rw[aaV]
 cases b:(xS i)[k]? with
 | none=>decide
 | some y=>exact zzu hi y (aaq b)
def vX(k i:Nat):List Nat:=(mf k).take i++aP (34-i)
def U5{k i:Nat}(hi:i<=34):(vX k i).length=34:=by simp[vX,G6];omega
def zBV(k:Nat):vX k 34=mf k:=by rw[vX,aam (by rw[G6];exact aaF _)];simp[aP]
def zzv{k i:Nat}(hi:i<34):(vX k i).set i ((xS i).getD k 0)=vX k (i+1):=by
 have a:(mf k)[i]'(by rw[G6];omega)=(xS i).getD k 0:=by simp[mf]
 rw[vX,vX,ab3 _ _ (by rw[aav];omega),aav,acv (by rw[G6];omega),Nat.sub_self,List.take_succ_eq_append_getElem (by rw[G6];omega),a,aat]
 congr 1
 rw[show 34-i=(34-(i+1))+1 by omega];rfl
def zGj{a b:Nat}:eO .u32 (a:Int) (b:Int)=((a*b%4294967296:Nat):Int):=by unfold eO;rw[<-abn];simp only[IntKind.wrap,IntKind.bits,IntKind.signed];simp
section
variable {α:Type} {f:Nat->Option α} {hit:α->Bool} {n i:Nat}
def U6(h:∀ j<n,∀ r,f j=some r->hit r=false):((aay n).filterMap f).find? hit=none:=by rw[abJ];intro r a;obtain⟨j,b,c⟩:=aa_.1 a;rw[h j (aaA.1 b) r c];decide
def zuk(hi:i<n)(h:∀ j<i,∀ r,f j=some r->hit r=false){r:α}(a:f i=some r)(b:hit r=true):((aay n).filterMap f).find? hit=some r:=by obtain⟨m,rfl⟩:∃ m,n=i+(m+1):=⟨n-i-1,an⟩;rw[List.range_add,List.filterMap_append,abx,U6 h,Option.none_or];rw[List.range_succ_eq_map,abz,List.filterMap_cons];simp only[abt,a,List.find?_cons,b]
end
noncomputable def Dh(L:List Nd)(p q:List Int)(live i:Nat):Option (List Nat):=if yL live i=true/\(sJ L (p.getD i 0) (q.getD i 0)).2=true then some (sJ L (p.getD i 0) (q.getD i 0)).1 else none
noncomputable def rY(L:List Nd)(p q:List Int)(live:Nat):List (List Nat):=(aay 18).filterMap (Dh L p q live)++(aay 12).filterMap fun k=>some (mf k)
def Qz{L:List Nd}{p q:List Int}{live:Nat}{r:List Nat}(h:r∈rY L p q live):r.length=34/\∀ x∈r,x<4294967296:=by
 rw[rY,aaD] at h
 rcases h with h|h
 ·obtain⟨j,b,a⟩:=aa_.1 h;unfold Dh at a;split at a
  ·cases a;exact zwQ _ _ _
  ·cases a
 ·obtain⟨j,b,a⟩:=aa_.1 h;cases a;exact⟨G6 _,zEH _⟩
section
variable {H:ae} {b z m:Nat} {L:List Nd}
def Mc{A X:ae}{n:Nat}(h:aj n A=A)(a:A.length=n):aj n (A++X)=A:=by unfold aj at h |-;rw[acx a];rwa[aam (Nat.le_of_eq a)] at h
def zzw[bS G][ar G][S:dS G][aK G][bX G][cN G][eS G](h:Bk H b z m L)(hi:Inv L){id i1 i2 i3 i4 live:Nat}{p q s t:List Int}(gK:live<4294967296)
  (T:H[i1]?=some (some (.cells [.int .u32 live]))) (U:H[i2]?=some (some (.cells [.ptr b 0]))) (W:H[i3]?=some (some (.cells (vcs p s .no)))) (Y:H[i4]?=some (some (.cells (vcs q t .no))))
  (hp:p.length=18) (hq:q.length=18) (o:id<H.length) {hit:List Nat->Bool} {H':List Nat->ae}
  (wH:∀ r∈rY L p q live,hit r=false->∀ X:ae,(∀ n,X.map (aaB (aw.cl n))=X)->YS G id [.agg (au .u32 r)] (H++X) true (H++X))
  (jj:∀ r∈rY L p q live,hit r=true->∀ X:ae,(∀ n,X.map (aaB (aw.cl n))=X)->YS G id [.agg (au .u32 r)] (H++X) false (H' r++X))
  (nW:∀ r∈rY L p q live,hit r=true->aj H.length (H' r)=H' r/\(H' r).length=H.length) :
  SF G 310 [.yld id,.ptr i1 0,.ptr i2 0,.ptr i3 0,.ptr i4 0] H (.a_ []) (match(rY L p q live).find? hit with|some r=>H' r|none=>H):=by
 refine ke eS.adn (aah rfl) ?_;have w:i1<H.length:=(aaa.1 T).1;have A:i2<H.length:=(aaa.1 U).1;have B:i3<H.length:=(aaa.1 W).1;have C:i4<H.length:=(aaa.1 Y).1;have D:=h.shut.self;have Z:=h.shut.back;have jk:=h.lb;have g1:=(aaa.1 T).2;have g2:=(aaa.1 U).2;have g3:=(aaa.1 W).2;have g4:=(aaa.1 Y).2
 have e1:∀ X:ae,(H++X)[i1]?=some (some (.cells [.int .u32 live])):=fun X=>by rw[aal w];exact T
 have e2:∀ X:ae,(H++X)[i2]?=some (some (.cells [.ptr b 0])):=fun X=>by rw[aal A];exact U
 have e3:∀ X:ae,(H++X)[i3]?=some (some (.cells (vcs p s .no))):=fun X=>by rw[aal B];exact W
 have e4:∀ X:ae,(H++X)[i4]?=some (some (.cells (vcs q t .no))):=fun X=>by rw[aal C];exact Y
 have G7:∀(X:ae) h,(H++X)[i1]'h=some (.cells [.int .u32 live]):=fun X h=>(aaa.1 (e1 X)).2;have Cj:∀(X:ae) h,(H++X)[i2]'h=some (.cells [.ptr b 0]):=fun X h=>(aaa.1 (e2 X)).2;have hm:∀(X:ae) h,(H++X)[i3]'h=some (.cells (vcs p s .no)):=fun X h=>(aaa.1 (e3 X)).2;have hn:∀(X:ae) h,(H++X)[i4]'h=some (.cells (vcs q t .no)):=fun X h=>(aaa.1 (e4 X)).2;have k0:∀(r:ae) x,(H++r).set H.length x=H++r.set 0 x:=fun r x=>sK rfl x
 have kk:∀ r:ae,(H++r)[H.length]?=r[0]?:=fun r=>nY rfl;have lp:=E_ (st:=s) (tk:=.no) hp;have lq:=E_ (st:=t) (tk:=.no) hq
 have U7:Bk (H++[none]) b z m L:=h.app fun n=>by simp
 have pW:H.map (aaB (aw.cl H.length))=H:=by have:=D;unfold aj at this;rwa[aam (aaF _)] at this
 simp;refine aQ 18 (fun i=>[(0,.yld id),(1,.ptr i1 0),(2,.ptr i2 0),(3,.ptr i3 0),(4,.ptr i4 0),(12,.int .i64 i)]) (fun _=>H) (fun i=>∀ j<i,∀ r,Dh L p q live j=some r->hit r=false) ?_ ?_
 ·simp[av,D,o,w,A,B,C]
 intro i qq O
 by_cases e:i<18
 ·have iH:=UQ (G:=G) live i gK an;simp(disch:=omega)[bM,g1];refine ax iH ?_
  cases hb:yL live i with
  | false =>
   have ha:∀ j<i+1,∀ r,Dh L p q live j=some r->hit r=false:=fun j E r c=>by
    rcases aaz.1 E with h|rfl
    ·exact O j h r c
    ·simp[Dh,hb] at c
   simp(disch:=omega)[e,bH,av,D,o,w,A,B,C,-aab]
   exact ha
  | true =>
   obtain⟨x,hx⟩:∃ x,x=p.getD i 0:=⟨_,rfl⟩;obtain⟨y,hy⟩:∃ y,y=q.getD i 0:=⟨_,rfl⟩
   have gx:x=p[i]'(by omega):=by rw[hx];simp[aaV,aae (show i<p.length by omega)]
   have gy:y=q[i]'(by omega):=by rw[hy];simp[aaV,aae (show i<q.length by omega)]
   have vx:=G8 (p:=p) (st:=s) (tk:=.no) hp e;have vy:=G8 (p:=q) (st:=t) (tk:=.no) hq e;rw[<-gx] at vx;rw[<-gy] at vy;have fN:=zEG (G:=G) x y U7 hi;have F:=zwQ L x y
   have I:Dh L p q live i=if(sJ L x y).2=true then some (sJ L x y).1 else none:=by rw[hx,hy];simp[Dh,hb]
   obtain⟨r,c⟩:∃ r,r=(sJ L x y).1:=⟨_,rfl⟩;obtain⟨P,jG⟩:∃ P,P=(sJ L x y).2:=⟨_,rfl⟩;rw[<-c,<-jG] at fN I;rw[<-c] at F;have rt:=fe (k:=.u32) F.1;have rd:(au .u32 r).drop 34=[]:=aap (by simp[F.1]);simp(disch:=omega)[bM,aC,leFn,e2,e3,e4,lp,lq,vx,vy];refine zAK fN ⟨?_,?_,rfl⟩ ?_
   ·intro v hv;simp only[aaG,aaK,or_false] at hv
    rcases hv with rfl|rfl|rfl<;>simp[V.cl,jk]
   ·simp only[acy,pW,abz,abQ,Option.map_none]
   simp(disch:=omega)[k0,kk,F.1]
   have yN:P=true->r∈rY L p q live:=fun h=>by
    rw[rY,aaD];exact .inl (aa_.2 ⟨i,aaA.2 e,by rw[I,if_pos h]⟩)
   have Mg:(∀ Q,Dh L p q live i=some Q->hit Q=false)->∀ j<i+1,∀ r,Dh L p q live j=some r->hit r=false:=fun h0 j E r c=>by
    rcases aaz.1 E with h|rfl
    ·exact O j h r c
    ·exact h0 r c
   cases P with
   | false =>
    have:=Mg fun Q h=>by rw[I] at h;cases h
    simp(disch:=omega)[e,bH,av,Z,o,w,A,B,C,-aab]
    exact this
   | true =>
    have J:∀ n,([some (aw.cells (au .u32 r))]:ae).map (aaB (aw.cl n))=[some (aw.cells (au .u32 r))]:=fun n=>by simp[aw.cl]
    simp(disch:=omega)[kk,F.1,rt]
    cases d:hit r with
    | false =>
     refine Ck (wH r (yN rfl) d _ J) ?_
     have:=Mg fun Q h=>by rw[I,if_pos rfl] at h;cases h;exact d
     simp(disch:=omega)[e,bH,av,Z,o,w,A,B,C,-aab]
     exact this
    | true =>
     refine Ck (jj r (yN rfl) d _ J) ?_;obtain⟨mg,h_⟩:=nW r (yN rfl) d;have hf:=zuk e O (by rw[I,if_pos rfl]) d
     have K:(rY L p q live).find? hit=some r:=by rw[rY,abx,hf];rfl
     simp[K,Mc mg h_]
 ·have M:i=18:=an
  subst M;have S:=U6 O;simp;refine aQ 12 (fun k=>[(0,.yld id),(40,.int .u32 k)]) (fun _=>H) (fun k=>∀ j<k,∀ r,(some (mf j):Option (List Nat))=some r->hit r=false) ?_ ?_
  ·simp[av,D,o]
  intro k hk uD
  by_cases u:k<12
  ·have ho:[V.int .u32 0,.int .u32 0]=[V.int .u32 0,.int .u32 0]:=rfl
   have hs:∀ i,aj (H.length+1) (H++[some (.cells (au .u32 (vX k i)))])=H++[some (.cells (au .u32 (vX k i)))]:=fun i=>by
    have:=(h.app (r:=[some (.cells (au .u32 (vX k i)))]) fun n=>by simp[aw.cl]).shut.self;simpa using this
   simp(disch:=omega)[bM,kk,k0];refine aQ 34 (fun i=>[(0,.yld id),(9,.int .u32 k),(10,.ptr H.length 0),(40,.int .u32 k),(43,.int .i64 i)]) (fun i=>H++[some (.cells (au .u32 (vX k i)))]) (fun _=>True) ?_ ?_
   ·have:=hs 0;rw[show vX k 0=aP 34 by simp[vX]] at this;simp[av,this,vX,show id<H.length+1 by omega]
   intro i hi _
   by_cases R:i<34
   ·have r3:mV (i:Int) 3=((i%3:Nat):Int):=Cl (b:=3);have r2:mV (i:Int) 2=((i%2:Nat):Int):=Cl (b:=2);have he:(((i%3:Nat):Int)<0)=False:=eq_false an;have s3:jc .u32 2863311530 ((i%3:Nat):Int)=((2863311530*2^(i%3)%4294967296:Nat):Int):=Mi (a:=2863311530) an;have c1:fV .u32 (i:Int)=(i:Int):=vY an;have c2:fV .u32 ((i+1:Nat):Int)=((i+1:Nat):Int):=vY an;have c3:fV .u32 ((i%2:Nat):Int)=((i%2:Nat):Int):=vY an
    have m1:eO .u32 7 (i:Int)=((7*i:Nat):Int):=zAy (a:=7) an
    have a1:aE .u32 3 ((7*i:Nat):Int)=((3+7*i:Nat):Int):=by unfold aE;rw[show(3:Int)+((7*i:Nat):Int)=((3+7*i:Nat):Int) by omega];exact vY an
    have m2:eO .u32 16843009 ((i+1:Nat):Int)=((16843009*(i+1):Nat):Int):=zAy (a:=16843009) an;have m3:eO .u32 (i:Int) 2654435769=((i*2654435769%4294967296:Nat):Int):=zGj (b:=2654435769)
    have hc:∀ f:Nat,f=2863311530*2^(i%3)%4294967296->∀ g:Nat,g=i*2654435769%4294967296->[V.int .u32 0,.int .u32 4294967295,.int .u32 1,.int .u32 2147483648,.int .u32 ((3+7*i:Nat):Int),.int .u32 ((16843009*(i+1):Nat):Int),.int .u32 2,.int .u32 65535,.int .u32 1431655765,.int .u32 (f:Int),.int .u32 ((i%2:Nat):Int),.int .u32 (g:Int)]=au .u32 (xS i):=by rintro f rfl g rfl;rfl
    obtain⟨f,N⟩:∃ f,f=2863311530*2^(i%3)%4294967296:=⟨_,rfl⟩;obtain⟨g,Mj⟩:∃ g,g=i*2654435769%4294967296:=⟨_,rfl⟩;have hc:=hc f N g Mj;rw[<-N] at s3;rw[<-Mj] at m3;have U8:au .u32 (aP 12)=[V.int .u32 0,.int .u32 0,.int .u32 0,.int .u32 0,.int .u32 0,.int .u32 0,.int .u32 0,.int .u32 0,.int .u32 0,.int .u32 0,.int .u32 0,.int .u32 0]:=rfl;have lc:(xS i).length=12:=rfl;have cg:=sI .u32 (xS i) k (by rw[lc];exact u)
    have hg:(xS i)[k]'(by rw[lc];exact u)=(xS i).getD k 0:=by simp[aaV,aae (show k<(xS i).length from u)]
    rw[hg] at cg;have l:=xO .u32 (vX k i) i ((xS i).getD k 0) (by rw[U5 hi];exact R);rw[zzv R] at l;obtain⟨cv,G_⟩:∃ cv,cv=(xS i).getD k 0:=⟨_,rfl⟩;rw[<-G_] at cg l;simp(disch:=omega)[bM,r3,r2,he,s3,c1,bH,c2,c3,m1,a1,m2,m3,U8,-aab,-abn,-abh];have lr:=U5 hi (k:=k);have ht:=U5 (show i+1<=34 from R) (k:=k);rw[hc,cg];simp(disch:=omega)[bM,aC,R,show k<=11 by omega,kk,k0,lr,l,hs,av,bH,show id<H.length+1 by omega,-aab]
   ·have M:i=34:=an
    subst M
    have J:∀ n,([some (aw.cells (au .u32 (mf k)))]:ae).map (aaB (aw.cl n))=[some (aw.cells (au .u32 (mf k)))]:=fun n=>by simp[aw.cl]
    have il:mf k∈rY L p q live:=by rw[rY,aaD];exact .inr (aa_.2 ⟨k,aaA.2 u,rfl⟩)
    have rl:=G6 k;have rt:=fe (k:=.u32) rl
    have ck:aE .u32 (k:Int) 1=((k+1:Nat):Int):=by unfold aE;rw[show(k:Int)+1=((k+1:Nat):Int) by omega];exact vY an
    simp[zBV,rl,rt]
    cases d:hit (mf k) with
    | false =>
     refine Ck (wH _ il d _ J) ?_
     have hl:∀ j<k+1,∀ r,(some (mf j):Option (List Nat))=some r->hit r=false:=fun j E r c=>by
      rcases aaz.1 E with h|rfl
      ·exact uD j h r c
      ·cases c;exact d
     simp(disch:=omega)[u,ck,av,Z,o,-aab]
     simpa using hl
    | true =>
     refine Ck (jj _ il d _ J) ?_;obtain⟨mg,h_⟩:=nW _ il d;have hB:=zuk u uD rfl d
     have K:(rY L p q live).find? hit=some (mf k):=by rw[rY,abx,S,hB];rfl
     simp[K,Mc mg h_]
  ·have M:k=12:=an
   subst M;have hB:=U6 uD
   have K:(rY L p q live).find? hit=none:=by rw[rY,abx,S,hB];rfl
   simp[K,D]
end
open Go Go.RowKit
variable {G:aM}
def Ak(p q:List Int)(live i:Nat):Bool:=yL live i&&(p.getD i 0 !=q.getD i 0)
def u6(p q s t:List Int)(live:Nat):Bool:=!((aay 18).any (Ak p q live))&&decide (s=t)
def U9{p q s t:List Int}{live:Nat}:u6 p q s t live=true↔(∀ i<18,Ak p q live i=false)/\s=t:=by simp[u6]
def zzx{p q s t:List Int}{live i:Nat}(hi:i<18)(h:Ak p q live i=true):u6 p q s t live=false:=by have:(aay 18).any (Ak p q live)=true:=abi.2 ⟨i,aaA.2 hi,h⟩;simp only[u6,this,Bool.not_true,ab0]
def zsF{p q s t:List Int}{live:Nat}(h:s≠t):u6 p q s t live=false:=by simp[u6,h]
def zEI[cN G][eS G](p q s t:List Int)(live:Nat)(K:live<4294967296)(u:p.length=18)(v:q.length=18)(X:s.length<=1000000) :
  FP G 309 [.agg (vcs p s .no),.agg (vcs q t .no),.int .u32 live] (.bool (u6 p q s t live)):=by
 refine bD eS.ado (aah rfl) ?_;have m:=E_ (st:=s) (tk:=.no) u;have f:=E_ (st:=t) (tk:=.no) v
 have g:∀ n,aX n (vcs p s .no)=vcs p s .no:=fun n=>by rw[ia,vcs];simp[mW,aaw,V.cl,Tk.cl]
 have k:∀ n,aX n (vcs q t .no)=vcs q t .no:=fun n=>by rw[ia,vcs];simp[mW,aaw,V.cl,Tk.cl]
 have L:(vcs p s .no).map V.jq=vcs p s .no:=by simp[vcs,mW,aaw,V.jq]
 have M:(vcs q t .no).map V.jq=vcs q t .no:=by simp[vcs,mW,aaw,V.jq]
 have sp:=U_ (st:=s) (tk:=.no) u;have r:=U_ (st:=t) (tk:=.no) v;obtain⟨P,E⟩:∃ P,P=vcs p s .no:=⟨_,rfl⟩;obtain⟨Q,F⟩:∃ Q,Q=vcs q t .no:=⟨_,rfl⟩;simp only[<-E,<-F] at m f g k L M sp r |-;simp;refine aQ 18 (fun i=>[(2,.int .u32 live),(3,.ptr 0 0),(4,.ptr 1 0),(10,.int .i64 i)]) (fun _=>[some (.cells P),some (.cells Q)]) (fun i=>∀ j<i,Ak p q live j=false) ?_ ?_
 ·simp[av,aj,g,k]
 intro i hi H
 by_cases b:i<18
 ·have N:=UQ (G:=G) live i K an;obtain⟨x,c⟩:∃ x,x=p.getD i 0:=⟨_,rfl⟩;obtain⟨y,d⟩:∃ y,y=q.getD i 0:=⟨_,rfl⟩
  have O:x=p[i]'(by omega):=by rw[c];simp[aaV,aae (show i<p.length by omega)]
  have R:y=q[i]'(by omega):=by rw[d];simp[aaV,aae (show i<q.length by omega)]
  have w:=G8 (p:=p) (st:=s) (tk:=.no) u b;have z:=G8 (p:=q) (st:=t) (tk:=.no) v b;rw[<-O,<-E] at w;rw[<-R,<-F] at z
  have o:Ak p q live i=(yL live i&&(x !=y)):=by rw[c,d];rfl
  have I:Ak p q live i=false->∀ j<i+1,Ak p q live j=false:=fun S j T=>by
   rcases aaz.1 T with h|rfl
   ·exact H j h
   ·exact S
  simp(disch:=omega)[bM];refine ax N ?_
  cases J:yL live i with
  | false =>
   rw[J,ab0] at o;simp(disch:=omega)[b,bH,av,aj,g,k,-aab]
   exact I o
  | true =>
   rw[J,aaS] at o
   by_cases a:x=y
   ·have A:Ak p q live i=false:=by rw[o,a];simp
    simp(disch:=omega)[bM,aC,m,f,w,z,a,b,bH,av,aj,g,k,-aab];exact I A
   ·have A:Ak p q live i=true:=by rw[o];simp[a]
    simp(disch:=omega)[bM,aC,m,f,w,z,kO a,zzx b A]
 ·have e:i=18:=an
  subst e;simp[m,f,sp,r]
  by_cases l:s.length=t.length
  ·simp[l,m,sp];refine aQ s.length (fun i=>[(4,.ptr 1 0),(36,.vs (ints .i64 s) .no),(37,.int .i64 s.length),(38,.int .i64 i)]) (fun _=>[some (.cells P),some (.cells Q)]) (fun i=>s.take i=t.take i) ?_ ?_
   ·simp[av,aj,g,k,l]
   intro i hi B
   by_cases b:i<s.length
   ·have C:(ints .i64 s)[i]?=some [.int .i64 s[i]]:=by simp[b]
    have D:(ints .i64 t)[i]?=some [.int .i64 (t[i]' an)]:=by simp[show i<t.length by omega]
    obtain⟨x,c⟩:∃ x,x=s[i]:=⟨_,rfl⟩;obtain⟨y,d⟩:∃ y,y=t[i]'(by omega):=⟨_,rfl⟩;rw[<-c] at C;rw[<-d] at D;have c:=c.symm;have d:=d.symm
    by_cases a:x=y
    ·have U:s.take (i+1)=t.take (i+1):=by rw[aaM,aaM,B,aae b,aae (show i<t.length by omega),c,d,a]
     simp(disch:=omega)[bM,l,f,r,C,D,a,bH,av,aj,g,k,U,show i<t.length by omega,-aab]
    ·have e:s≠t:=by rintro rfl;exact a (c.symm.trans d)
     simp(disch:=omega)[bM,l,f,r,C,D,kO a,zsF e]
   ·have e:i=s.length:=an
    subst e;rw[aaX,l,aaX] at B;simp[U9.2 ⟨H,B⟩]
  ·have e:s≠t:=fun h=>l (by rw[h]);have W:((s.length:Int) !=(t.length:Int))=true:=kO an;simp[W,zsF e]
mutual
def V.u7{n m:Nat}(h:n<=m):∀ v:V,(v.cl m).cl n=v.cl n
 | .ptr id b=>by
  by_cases a:id<m
  ·simp only[V.cl,if_pos a]
  ·simp only[V.cl,if_neg a,if_neg (show¬id<n by omega)]
 | .rs id b k e=>by
  by_cases a:id<m
  ·simp only[V.cl,if_pos a]
  ·simp only[V.cl,if_neg a,if_neg (show¬id<n by omega)]
 | .mp id=>by
  by_cases a:id<m
  ·simp only[V.cl,if_pos a]
  ·simp only[V.cl,if_neg a,if_neg (show¬id<n by omega)]
 | .yld id=>by
  by_cases a:id<m
  ·simp only[V.cl,if_pos a]
  ·simp only[V.cl,if_neg a,if_neg (show¬id<n by omega)]
 | .gs id k=>by
  by_cases a:id<m
  ·simp only[V.cl,if_pos a]
  ·simp only[V.cl,if_neg a,if_neg (show¬id<n by omega)]
 | .vs g tk=>by
  simp only[V.cl]
  cases tk with
  | own q =>
   by_cases a:q<m
   ·simp only[Tk.cl,if_pos a]
   ·simp only[Tk.cl,if_neg a,if_neg (show¬q<n by omega)]
  | no=>rfl
  | full=>rfl
 | .fn f c=>by simp only[V.cl,Ha h c]
 | .agg d=>by simp only[V.cl,Ha h d]
 | .a_ d=>by simp only[V.cl,Ha h d]
 | .undef=>rfl
 | .mh=>rfl
 | .any=>rfl
 | .int _ _=>rfl
 | .bool _=>rfl
 | .str _=>rfl
 | .nilp=>rfl
 | .cptr _=>rfl
 | .nilf=>rfl
 | .nilm=>rfl
def Ha{n m:Nat}(h:n<=m):∀ cs:List V,aX n (aX m cs)=aX n cs
 | []=>rfl
 | c::cs=>by simp only[aX,V.u7 h c,Ha h cs]
end
def aw.u7{n m:Nat}(h:n<=m)(b:aw):(b.cl m).cl n=b.cl n:=by
 cases b with
 | cells a=>simp only[aw.cl,Ha h]
 | grow a c d=>simp only[aw.cl,Ha h]
 | zone k=>rfl
 | jr a=>simp only[aw.cl,Ha h]
 | map e=>simp only[aw.cl,ace];congr 1;exact abH fun p _=>by simp only[ab9,V.u7 h]
 | dE s pos=>rfl
 | loop f g as bo st=>simp only[aw.cl,ace];congr 1;exact abH fun p _=>by simp only[ab9,V.u7 h]
def zwe{n m:Nat}(h:n<=m)(H:ae):aj n (aj m H)=aj n H:=by
 unfold aj;rw[<-List.map_take,ace,List.take_take,acv h]
 exact abH fun b _=>by cases b with
  | none=>rfl
  | some b=>simp only[ab9,abZ,aw.u7 h]
def ztZ{H1:ae}{n k:Nat}{e0:List (Nat×V)}{ps:List Nat}{as bo:bc}{st:Al}(h:(aj n H1)[k]?=some (some (.loop e0 ps as bo st))):∃ c,H1[k]?=some (some (.loop c ps as bo st)):=by
 unfold aj at h;rw[abc] at h
 by_cases d:k<n
 ·rw[List.getElem?_take_of_lt d] at h
  cases a:H1[k]? with
  | none=>rw[a] at h;cases h
  | some b =>
   rw[a] at h
   cases b with
   | none=>simp at h
   | some b =>
    cases b<;>simp[aw.cl] at h
    obtain⟨_,rfl,rfl,rfl,rfl⟩:=h;exact⟨_,rfl⟩
 ·rw[List.getElem?_take_eq_none an] at h;cases h
def Ml{f:Nat}{cap:List V}{l ps:List Nat}{as bo:bc}{r:V}{H H2:ae}{e0:List (Nat×V)}{g:List Nat}{i j:bc}{st:Al}{x:Ex}{K:List Kt}{e:Env}{Q:Ex->Env->ae->Prop}
  (h:SF G f (.yld H.length::cap) (H++[some (.loop (look e l) ps as bo .ready)]) r H2)
  (b:H2[H.length]?=some (some (.loop e0 g i j st))) (a:st=.ready/\x=.nx\/st=.done x/\x≠.nx) (c:Wr G x K e (aj H.length H2) Q):Va G (.fn f cap) l ps as bo K e H Q:=by
 obtain⟨n,H1,k,_,d⟩:=h;rw[<-d] at b;obtain⟨o,m⟩:=ztZ b;refine zAh k m a ?_;rw[<-d,zwe ir] at c;exact c
open Go Go.RowKit
variable {G:aM}
def dN(c:Int):Option (List Nat)->List V
 | some r=>.int .i64 c::((u9 r).cs++(mF (r.drop 18)).cs)
 | none=>.int .i64 c::(au .u32 (aP 20)++au .u64 (aP 7))
def sL:bc:=.region 1 [⟨some 13,.alloc 0 (au .u32 (aP 34)),none⟩,⟨none,.store 34 (.t 13) (.t 46),none⟩]
def sM:bc:=.block 1 (.seq (.region 2 [⟨some 48,.load 34 true false (.t 13),none⟩,⟨some 49,.pcall 294 [.t 48],none⟩,⟨some 47,.mv (.t 49),none⟩,⟨some 50,.ext 0 (.t 47),none⟩,⟨some 51,.ext 1 (.t 47),none⟩,⟨some 14,.alloc 0 (au .u32 (aP 18)),none⟩,
 ⟨some 15,.alloc 1 [.int .u32 0,.int .u32 0,.int .u64 0,.int .u64 0,.int .u64 0,.int .u64 0,.int .u64 0,.int .u64 0,.int .u64 0],none⟩,⟨none,.store 18 (.t 14) (.t 50),none⟩,⟨none,.store 9 (.t 15) (.t 51),none⟩])
 (.seq (.keep [3,4,5,6,7,14,15]) (.seq (.region 0 [⟨some 52,.load 1 false false (.t 3),none⟩,⟨some 53,.load 1 false false (.t 4),none⟩,⟨some 54,.load 1 false false (.t 5),none⟩,⟨some 55,.load 18 true false (.t 14),none⟩,⟨some 56,.load 9 true false (.t 15),none⟩,
  ⟨some 57,.pcall 308 [.t 52,.t 53,.t 54,.t 55,.t 56],none⟩]) (.seq (.keep [6,7,14,15,57]) (.cond (.t 57) (.seq (.region 0 [⟨some 58,.load 18 true false (.t 14),none⟩,⟨some 59,.load 9 true false (.t 15),none⟩,
   ⟨some 60,.build (dN 0 none) [(0,1,.c (.int .i64 1)),(1,18,.t 58),(19,9,.t 59)],none⟩,⟨none,.store 28 (.t 6) (.t 60),none⟩,⟨none,.store 1 (.t 7) (.c (.int .i64 0)),none⟩]) .ret) .skip)))))
def js:List (Nat×V):=[(3,.ptr 0 0),(4,.ptr 1 0),(5,.ptr 2 0),(6,.ptr 3 0),(7,.ptr 4 0)]
structure Am (N:ae) (v w:List af) (live:Nat):Prop where
 b0:N[0]?=some (some (.cells [.vs (IL v) .no]))
 b1:N[1]?=some (some (.cells [.vs (IL w) .no]))
 b2:N[2]?=some (some (.cells [.int .u32 live]))
 b3:N[3]?=some (some (.cells (dN 0 none)))
 b4:N[4]?=some (some (.cells [.int .i64 0]))
 lo:N[14]?=some (some (.loop js [46] sL sM .ready))
 shut:im N
def Am.app{N:ae}{v w:List af}{live:Nat}(h:Am N v w live){X:ae}(a:∀ n,X.map (aaB (aw.cl n))=X):Am (N++X) v w live:=by
 have b:=(aaa.1 h.lo).1;refine⟨?_,?_,?_,?_,?_,?_,h.shut.app a⟩
 all_goals rw[aal an]
 ·exact h.b0
 ·exact h.b1
 ·exact h.b2
 ·exact h.b3
 ·exact h.b4
 ·exact h.lo
def ju(N:ae)(r:List Nat):ae:=((N.set 3 (some (.cells (dN 1 (some r))))).set 4 (some (.cells [.int .i64 0]))).set 14 (some (.loop js [46] sL sM (.done .ret)))
def zBW{N X:ae}{r:List Nat}(h:14<N.length):ju (N++X) r=ju N r++X:=by unfold ju;rw[aaE _ _ an,aaE _ _ (by simp;omega),aaE _ _ (by simp;omega)]
def Vb{N:ae}(h:im N)(g:14<N.length)(r:List Nat):im (ju N r):=by
 intro m b
 have c:N.length<=m:=by simpa[ju] using b
 have d:aX m (dN 1 (some r))=dN 1 (some r):=by simp[dN,ia,V.cl,St.cs,Da.cs,au,aaw]
 unfold ju;rw[abB,abB,abB,h m c]
 have a:(aw.loop js [46] sL sM (.done .ret)).cl m=.loop js [46] sL sM (.done .ret):=by simp[aw.cl,js,V.cl,show 0<m by omega,show 1<m by omega,show 2<m by omega,show 3<m by omega,show 4<m by omega]
 have e:(aw.cells (dN 1 (some r))).cl m=.cells (dN 1 (some r)):=by rw[aw.cl,d]
 have f:(aw.cells [V.int .i64 0]).cl m=.cells [.int .i64 0]:=by simp[aw.cl,aX,V.cl]
 simp only[abZ,a,e,f]
def zzy[dR G][dx G][az G][ay G][bQ G][dw G][cT G][aN G][cU G][cV G][bW G][cN G]
  {N:ae} {v w:List af} {live:Nat} (h:Am N v w live) (Y:v.length<=maxLen) (Z:w.length<=maxLen) (hk:∀ x∈v,x.k<4294967296) (mQ:∀ x∈w,x.k<4294967296) (gK:live<4294967296)
  (hv:aW v=true) (hw:aW w=true) {r:List Nat} (e:r.length=34) (C:∀ x∈r,x<4294967296) {t:Bool} (ht:uX v w live (u9 r) (mF (r.drop 18))=t) :
  YS G 14 [.agg (au .u32 r)] N (!t) (if t=true then ju N r else N):=by
 have E:=(aaa.1 h.lo).1
 obtain⟨b,H',hy,rfl,rfl⟩:=zEk (R:=fun b H'=>b=(!t)/\H'=if t=true then ju N r else N) (G:=G) (args:=[.agg (au .u32 r)]) h.lo rfl (by
  have rt:=fe (k:=.u32) e;have rd:(au .u32 r).drop 34=[]:=aap (by simp[e]);have kk:∀ r:ae,(N++r)[N.length]?=r[0]?:=fun r=>nY rfl;have k0:∀(r:ae) x,(N++r).set N.length x=N++r.set 0 x:=fun r x=>sK rfl x
  have F:∀ r:ae,(N++r)[14]?=some (some (.loop js [46] sL sM .ready)):=fun r=>by rw[aal E];exact h.lo
  simp[sL,js,rZ,k0,e];refine⟨_,_,_,_,F _,?_⟩;obtain⟨B,g⟩:∃ B,B=N.set 14 (some (.loop js [46] sL sM .busy)):=⟨_,rfl⟩
  have d:B.length=N.length:=by rw[g];simp
  rw[aaE _ _ E,<-g];have JP:∀ r:ae,(B++r)[N.length]?=r[0]?:=fun r=>nY d;have ha:∀ r:ae,(B++r)[N.length+1]?=r[1]?:=fun r=>qO d 1;have j:∀ r:ae,(B++r)[N.length+2]?=r[2]?:=fun r=>qO d 2;have M:∀(r:ae) x,(B++r).set (N.length+1) x=B++r.set 1 x:=fun r x=>xT d 1 x;have H:∀(r:ae) x,(B++r).set (N.length+2) x=B++r.set 2 x:=fun r x=>xT d 2 x;have hb:∀ r:ae,(B++r)[N.length+1+1]?=r[2]?:=j;have hc:∀(r:ae) x,(B++r).set (N.length+1+1) x=B++r.set 2 x:=H
  have O:∀(a b c:Option aw) (r:ae) h,(B++a::b::c::r)[N.length+1+1]'h=c:=fun a b c r h=>(aaa.1 (j (a::b::c::r))).2
  have look:∀{p:Nat} {c:List V},N[p]?=some (some (.cells c))->p≠14->∀ r:ae,(B++r)[p]?=some (some (.cells c)):=fun{p c} P aB r=>by
   rw[aal (by rw[d];exact(aaa.1 P).1),g,aa2 (Ne.symm aB)];exact P
  have q0:=look h.b0 (by decide);have q1:=look h.b1 (by decide);have q2:=look h.b2 (by decide);have I:=look h.b3 (by decide);have J:∀(r:ae) h,(B++r)[0]'h=some (.cells [.vs (IL v) .no]):=fun r h=>(aaa.1 (q0 r)).2;have K:∀(r:ae) h,(B++r)[1]'h=some (.cells [.vs (IL w) .no]):=fun r h=>(aaa.1 (q1 r)).2;have QB:∀(r:ae) h,(B++r)[2]'h=some (.cells [.int .u32 live]):=fun r h=>(aaa.1 (q2 r)).2;have JQ:∀(r:ae) h,(B++r)[3]'h=some (.cells (dN 0 none)):=fun r h=>(aaa.1 (I r)).2
  have Q:=Vc e C;have T:=Mp (w:=r.drop 18) (by simp[e]) (fun x hx=>C x (aaL hx));have f:=zwE (G:=G) r e C;have q:=zyb (G:=G) v w live (u9 r) (mF (r.drop 18)) Y Z hk mQ gK Q T;rw[hv,hw,ht] at q;have s:=JH Q;have u:=C9 T;have U:dN 1 (some r)=.int .i64 1::((u9 r).cs++(mF (r.drop 18)).cs):=rfl;obtain⟨S,z⟩:∃ S,S=(u9 r).cs:=⟨_,rfl⟩;obtain⟨D,A⟩:∃ D,D=(mF (r.drop 18)).cs:=⟨_,rfl⟩
  have Sk:∀ n,aX n S=S:=fun n=>by rw[z];exact lD _ n
  have Dk:∀ n,aX n D=D:=fun n=>by rw[A];exact yK _ n
  have Sn:S.map V.jq=S:=by rw[z];exact L7 _
  have Dn:D.map V.jq=D:=by rw[A];exact Cb _
  simp only[FL,SV,DV,aaS] at f q;rw[<-z,<-A] at f q U;rw[<-z] at s;rw[<-A] at u;have St:=aam (i:=18) (l:=S) an;have W:=aam (i:=9) (l:=D) an;have Sd:S.drop 18=[]:=aap an;have Dd:D.drop 9=[]:=aap an;obtain⟨m,L⟩:∃ m,m=dN 0 none:=⟨_,rfl⟩
  have JS:m.length=28:=by rw[L];rfl
  simp only[<-L] at I JQ;simp[sM,d,e,rt,<-L];refine ax f ?_;simp[d,M,H];simp[d,O,M,H,s,u,St,W,Sk,Dk,Sn,Dn,J,K,QB];refine ax q ?_
  have o:∀ r:ae,(B++r)[14]?=some (some (.loop js [46] sL sM .busy)):=fun r=>by
   rw[aal an,g,aba an]
  cases t with
  | false =>
   have iM:∀ r:ae,aj N.length ((B++r).set 14 (some (.loop js [46] sL sM .ready)))=N:=fun r=>by
    rw[aaE _ _ an,g,acA,Dm h.lo];exact h.shut.back r
   simp
   exact⟨_,_,_,_,o _,iM _⟩
  | true =>
   simp[d,O,s,u,St,W];have dr:(S++m.drop 19).drop 27=[]:=aap (by simp;omega)
   have ln:(V.int .i64 1::(S++D)).length=28:=by simp;omega
   have tn:(S++D).take 27=S++D:=aam (by simp;omega);have dn:m.drop 28=[]:=aap an;have q4:=look h.b4 (by decide);have Fa:∀(r:ae) x,(B++r).set 3 x=B.set 3 x++r:=fun r x=>aaE _ _ an;have Fb:∀(r:ae) y x,(B.set 3 y++r).set 4 x=(B.set 3 y).set 4 x++r:=fun r y x=>aaE _ _ (by simp;omega)
   have X:∀(r:ae) y,(B.set 3 y++r)[4]?=some (some (.cells [.int .i64 0])):=fun r y=>by
    have:=q4 [];rw[aal (by simp;omega),aa2 (by decide)];simpa using this
   have va:∀(r:ae) y h,(B.set 3 y++r)[4]'h=some (.cells [.int .i64 0]):=fun r y h=>(aaa.1 (X r y)).2;simp[JS,dr,dn,s,u,I,Fa,Fb,X];refine⟨js,[46],sL,sM,?_,?_⟩
   ·have:=o [];rw[abq] at this;rw[aal (by simp;omega),aa2 (by decide),aa2 (by decide)];exact this
   ·have he:((B.set 3 (some (aw.cells (V.int IntKind.i64 1::(S++D))))).set 4 (some (aw.cells [V.int IntKind.i64 0]))).set 14 (some (.loop js [46] sL sM (.done .ret)))=ju N r:=by rw[g,<-U,acz _ _ (show(14:Nat)≠3 by decide),acz _ _ (show(14:Nat)≠4 by decide),acA];rfl
    rw[aaE _ _ (by simp;omega),he];have:=(Vb h.shut E r).back [some (aw.cells (au .u32 r)),some (aw.cells S),some (aw.cells D)]
    rwa[show(ju N r).length=N.length by simp[ju]] at this)
 exact hy
noncomputable def eo(v w:List af)(live:Nat):Int×Option (List Nat) :=
 if(aW v&&aW w)=true then
  if u6 (aH [] v).p (aH (aH [] v).L w).p (aH [] v).st (aH (aH [] v).L w).st live=true then(0,none)
  else match(rY (aH (aH [] v).L w).L (aH [] v).p (aH (aH [] v).L w).p live).find? fun r=>uX v w live (u9 r) (mF (r.drop 18)) with
   | some r=>(1,some r)
   | none=>(2,none)
 else(0,none)
def QC(a b c d e:List V):ae:=[some (.cells a),some (.cells b),some (.cells c),some (.cells d),some (.cells e),some (.map []),some (.cells [.vs [] (.own 7),.mp 5]),some (.zone 0)]
def zBX{a b c d e:List V}(f:∀ n,aX n a=a)(g:∀ n,aX n b=b)(i:∀ n,aX n c=c)(hd:∀ n,aX n d=d)(j:∀ n,aX n e=e):Bk (QC a b c d e) 6 7 5 []:=by refine⟨rfl,rfl,rfl,fun n k=>?_,fun a h=>(by cases h),by decide⟩;simp only[QC,aau,abC] at k;simp[QC,aw.cl,f,g,i,hd,j,aX,V.cl,Tk.cl,show 7<n by omega,show 5<n by omega]
def zEJ[cu G](a b c d e:List V):bA G (.F 256 [] [some (.cells a),some (.cells b),some (.cells c),some (.cells d),some (.cells e)] (.ptr 6 0) [some (.cells a),some (.cells b),some (.cells c),some (.cells d),some (.cells e),some (.map []),some (.cells [.vs [] .full,.mp 5])]):=by refine ee cu.adp (aah rfl) ?_;simp
section
variable {H:ae} {b z m:Nat} {L:List Nd}
noncomputable def wJ(L:List Nd)(w:List af):List V:=if aW w=true then vcs (aH L w).p (aH L w).st .no else vcs (abI 18 0) [] .full
noncomputable def yR(L:List Nd)(w:List af):List Nd:=if aW w=true then(aH L w).L else L
def Vd[dR G][dx G][az G][ay G][aN G][ar G][bG G][aK G][cd G](w:List af)(h:Bk H b z m L)(hi:Inv L)(e:L.length<=800000)(c:w.length<=maxLen)(d:∀ x∈w,x.k<4294967296) :
  SF G 296 [.ptr b 0,FL w] H (.a_ [.agg (wJ L w),.bool (aW w)]) (dC H b z m (yR L w)):=by
 cases a:aW w with
 | true =>
  have:=zLX (G:=G) w h hi e c d a
  simpa only[wJ,yR,a,if_true] using this
 | false =>
  have:=zLW (G:=G) w h c d a;simpa only[wJ,yR,a,aax,if_false,h.fW] using this
def Ve(hi:Inv L){w:List af}(a:∀ x∈w,x.k<4294967296):(wJ L w).length=19:=by
 unfold wJ;split
 ·exact E_ (An hi w a).len
 ·rfl
def Vf(w:List af)(n:Nat):aX n (wJ L w)=wJ L w:=by
 unfold wJ
 split<;>(rw[ia,vcs];simp[mW,aaw,V.cl,Tk.cl])
def zwR(hi:Inv L){w:List af}(a:∀ x∈w,x.k<4294967296):Inv (yR L w):=by
 unfold yR;split
 ·exact(An hi w a).ext.inv
 ·exact hi
def zwS(hi:Inv L){w:List af}(b:∀ x∈w,x.k<4294967296):(yR L w).length<=L.length+114:=by
 unfold yR;split
 ·rename_i a
  have c:w.length<=32:=by simp only[aW,aad,decide_eq_true_eq] at a;exact a.1
  have:=(An hi w b).ext.len;omega
 ·omega
end
def zun(c:Int):(dN c none).length=28:=rfl
def QD(c:Int)(o:Option (List Nat))(n:Nat):aX n (dN c o)=dN c o:=by cases o<;>simp[dN,ia,V.cl,St.cs,Da.cs,au,aaw]
def zwT(c:Int)(o:Option (List Nat)):(dN c o).map V.jq=dN c o:=by cases o<;>simp[dN,V.jq,St.cs,Da.cs,au,aaw]
def zzz(c:Int):(dN c none).take 28=dN c none:=aam (by rw[zun];exact aaF _)
def zEK[eS G](H:ae)(b live:Nat)(a c:List V)(k1:∀ n,aX n a=a)(k2:∀ n,aX n c=c)(d:a.map V.jq=a)(e:c.map V.jq=c) :
  bA G (.F 311 [.ptr b 0,.agg a,.agg c,.int .u32 live] H (.fn 310 [.ptr (H.length+3) 0,.ptr H.length 0,.ptr (H.length+1) 0,.ptr (H.length+2) 0])
   (H++[some (.cells [.ptr b 0]),some (.cells a),some (.cells c),some (.cells [.int .u32 live])])):=by
 refine ee eS.adq (aah rfl) ?_;simp
def zsG[dR G][dx G][az G][ay G][bQ G][dw G][cT G][aN G][cU G][cV G][bW G][cd G][bS G][ar G][Cc:dS G][cu G][aK G][bX G][cN G][eS G]
  (v w:List af) (live:Nat) (hf:v.length<=maxLen) (hg:w.length<=maxLen) (H:∀ x∈v,x.k<4294967296) (I:∀ x∈w,x.k<4294967296) (gK:live<4294967296) :
  FP G 312 [FL v,FL w,.int .u32 live] (.a_ [.agg (dN (eo v w live).1 (eo v w live).2),.int .i64 (if(aW v&&aW w)=true then 0 else 1)]):=by
 haveI:bG G:=Cc.tobG
 refine bD eS.adr (aah rfl) ?_;obtain⟨Z,hZ⟩:∃ Z:List V,Z=vcs (abI 18 0) [] .full:=⟨_,rfl⟩
 have lZ:Z.length=19:=by rw[hZ];rfl
 have ew:Z.drop 19=[]:=aap an
 have He:[V.int .i64 0,.int .i64 0,.int .i64 0,.int .i64 0,.int .i64 0,.int .i64 0,.int .i64 0,.int .i64 0,.int .i64 0,.int .i64 0,.int .i64 0,.int .i64 0,.int .i64 0,.int .i64 0,.int .i64 0,.int .i64 0,.int .i64 0,.int .i64 0,.vs [] .full]=Z:=by rw[hZ];rfl
 obtain⟨m,B⟩:∃ m:List V,m=dN 0 none:=⟨_,rfl⟩
 have Vg:V.int .i64 0::(au .u32 (aP 20)++au .u64 (aP 7))=m:=by rw[B];rfl
 have JS:m.length=28:=by rw[B];rfl
 have QE:∀ n,aX n m=m:=fun n=>by rw[B];simp[dN,ia,V.cl,au,aaw]
 have K:=zBX (a:=[.vs (IL v) .no]) (b:=[.vs (IL w) .no]) (c:=[.int .u32 live]) (d:=m) (e:=[.int .i64 0]) (fun n=>by simp[aX,V.cl,Tk.cl]) (fun n=>by simp[aX,V.cl,Tk.cl]) (fun n=>by simp[aX,V.cl]) QE (fun n=>by simp[aX,V.cl]);obtain⟨j,D⟩:∃ j,j=QC [.vs (IL v) .no] [.vs (IL w) .no] [.int .u32 live] m [.int .i64 0]:=⟨_,rfl⟩;rw[<-D] at K
 have M:j.length=8:=by rw[D];rfl
 have t0:∀ r,aj 8 (j++r)=j:=fun r=>by have:=K.shut.back r;rwa[M] at this
 have a8:∀ r:ae,(j++r)[8]?=r[0]?:=fun r=>nY M;have a9:∀ r:ae,(j++r)[9]?=r[1]?:=fun r=>qO M 1;have b8:∀(r:ae) x,(j++r).set 8 x=j++r.set 0 x:=fun r x=>sK M x;have b9:∀(r:ae) x,(j++r).set 9 x=j++r.set 1 x:=fun r x=>xT M 1 x
 have o0:∀ r:ae,(j++r)[0]?=some (some (.cells [.vs (IL v) .no])):=fun r=>by rw[D];rfl
 have o1:∀ r:ae,(j++r)[1]?=some (some (.cells [.vs (IL w) .no])):=fun r=>by rw[D];rfl
 have o3:∀ r:ae,(j++r)[3]?=some (some (.cells m)):=fun r=>by rw[D];rfl
 have o4:∀ r:ae,(j++r)[4]?=some (some (.cells [.int .i64 0])):=fun r=>by rw[D];rfl
 have U7:Bk (j++[none]) 6 7 5 []:=K.app fun n=>by simp
 simp[FL,Vg];refine vb (zEJ [.vs (IL v) .no] [.vs (IL w) .no] [.int .u32 live] m [.int .i64 0]) ir ?_;simp;rw[show([some (.cells [.vs (IL v) .no]),some (.cells [.vs (IL w) .no]),some (.cells [.int .u32 live]),some (.cells m),some (.cells [.int .i64 0]),some (.map []),some (.cells [.vs [] (.own 7),.mp 5]),some (.zone 0),none]:ae)=j++[none] from by rw[D];rfl];obtain⟨o,uF⟩:∃ o,o=yR [] v:=⟨_,rfl⟩
 obtain⟨f,QH⟩:∃ f,f=wJ [] v:=⟨_,rfl⟩
 have i1:Inv o:=by rw[uF];exact zwR Inv.nil H
 have z1:o.length<=114:=by rw[uF];simpa using zwS Inv.nil H
 have x1:f.length=19:=by rw[QH];exact Ve Inv.nil H
 have c1:∀ n,aX n f=f:=fun n=>by rw[QH];exact Vf v n
 have mE:=Vd (G:=G) v U7 Inv.nil (by decide) hf H;rw[<-uF,<-QH,K.cf] at mE;obtain⟨U,hU⟩:∃ U,U=dC j 6 7 5 o:=⟨_,rfl⟩
 have QI:Bk U 6 7 5 o:=by rw[hU];exact K.to i1 an
 rw[<-hU] at mE
 have N:U.length=8:=by rw[hU,r6,M]
 have Fe:∀{p:Nat} {c:List V},(j++[])[p]?=some (some (.cells c))->p≠6->U[p]?=some (some (.cells c)):=fun{p c} J aB=>by
  rw[hU];exact ztk K (by simpa using J) aB
 obtain⟨u,QJ⟩:∃ u,u=yR o w:=⟨_,rfl⟩;obtain⟨g,Mr⟩:∃ g,g=wJ o w:=⟨_,rfl⟩
 have i2:Inv u:=by rw[QJ];exact zwR i1 I
 have z2:u.length<=228:=by rw[QJ];have:=zwS i1 I;omega
 have x2:g.length=19:=by rw[Mr];exact Ve i1 I
 have c2:∀ n,aX n g=g:=fun n=>by rw[Mr];exact Vf w n
 have hm:Bk (U++[some (.cells f),none]) 6 7 5 o:=QI.app fun n=>by simp[aw.cl,c1]
 have Dq:=Vd (G:=G) w hm i1 an hg I;rw[<-QJ,<-Mr,QI.cf] at Dq;obtain⟨T,hT⟩:∃ T,T=dC U 6 7 5 u:=⟨_,rfl⟩
 have ho:Bk T 6 7 5 u:=by rw[hT];exact QI.to i2 an
 rw[<-hT] at Dq
 have l:T.length=8:=by rw[hT,r6,N]
 have vc:∀{p:Nat} {c:List V},(j++[])[p]?=some (some (.cells c))->p≠6->T[p]?=some (some (.cells c)):=fun{p c} J aB=>by
  rw[hT];exact ztk QI (Fe J aB) aB
 have O:∀{A:ae} {p:Nat} {c:List V},A[p]?=some (some (.cells c))->∀ r:ae,(A++r)[p]?=some (some (.cells c)):=fun{A p c} J r=>by
  rw[aal (aaa.1 J).1];exact J
 have u1:=O (Fe (o1 []) (by decide));have hq:∀(r:ae) h,(U++r)[1]'h=some (.cells [.vs (IL w) .no]):=fun r h=>(aaa.1 (u1 r)).2;have q0:=O (vc (o0 []) (by decide));have q1:=O (vc (o1 []) (by decide));have q2:=O (vc (c:=[.int .u32 live]) (p:=2) (by rw[D];rfl) (by decide));have q3:=O (vc (o3 []) (by decide));have q4:=O (vc (o4 []) (by decide));have hO:∀(r:ae) h,(T++r)[0]'h=some (.cells [.vs (IL v) .no]):=fun r h=>(aaa.1 (q0 r)).2
 have hV:∀(r:ae) h,(T++r)[1]'h=some (.cells [.vs (IL w) .no]):=fun r h=>(aaa.1 (q1 r)).2;have QB:∀(r:ae) h,(T++r)[2]'h=some (.cells [.int .u32 live]):=fun r h=>(aaa.1 (q2 r)).2;have JQ:∀(r:ae) h,(T++r)[3]'h=some (.cells m):=fun r h=>(aaa.1 (q3 r)).2;have hW:∀(r:ae) h,(T++r)[4]'h=some (.cells [.int .i64 0]):=fun r h=>(aaa.1 (q4 r)).2;have hY:∀ r:ae,(U++r)[8]?=r[0]?:=fun r=>nY N;have h0:∀ r:ae,(U++r)[9]?=r[1]?:=fun r=>qO N 1
 have hs:∀(r:ae) x,(U++r).set 8 x=U++r.set 0 x:=fun r x=>sK N x;have h3:∀(r:ae) x,(U++r).set 9 x=U++r.set 1 x:=fun r x=>xT N 1 x;have h4:∀ r:ae,(T++r)[8]?=r[0]?:=fun r=>nY l;have h5:∀ r:ae,(T++r)[9]?=r[1]?:=fun r=>qO l 1;have h6:∀(r:ae) x,(T++r).set 8 x=T++r.set 0 x:=fun r x=>sK l x;have ht:∀(r:ae) x,(T++r).set 9 x=T++r.set 1 x:=fun r x=>xT l 1 x;have d1:f.drop 19=[]:=aap an;have d2:g.drop 19=[]:=aap an
 have e1:f.take 19=f:=aam an;have e2:g.take 19=g:=aam an;simp only[FL] at mE Dq;refine cL mE ?_;simp[N,hs,He,lZ,ew,x1,hq];refine cL Dq ?_;simp[l,ht,lZ,ew,x2]
 have ai:∀ p,p<8->p<T.length:=fun p J=>by omega
 have W:∀(r:ae) x,(T++r).set 3 x=T.set 3 x++r:=fun r x=>aaE _ _ an;have Y:∀(r:ae) y x,(T.set 3 y++r).set 4 x=(T.set 3 y).set 4 x++r:=fun r y x=>aaE _ _ (by simp;omega)
 have hu:∀(r:ae) y x,((T.set 3 y).set 4 x++r)[3]?=some y:=fun r y x=>by
  rw[aal (by simp;omega),aa2 (by decide),aba an]
 have hy:∀(r:ae) y x,((T.set 3 y).set 4 x++r)[4]?=some x:=fun r y x=>by
  rw[aal (by simp;omega),aba (by simp;omega)]
 have Dp:∀(r:ae) y,(T.set 3 y++r)[4]?=some (some (.cells [.int .i64 0])):=fun r y=>by
  have:=q4 [];rw[aal (by simp;omega),aa2 (by decide)];simpa using this
 have va:∀(r:ae) y h,(T.set 3 y++r)[4]'h=some (.cells [.int .i64 0]):=fun r y h=>(aaa.1 (Dp r y)).2;have Ao:∀(r:ae) y x h,((T.set 3 y).set 4 x++r)[3]'h=y:=fun r y x h=>(aaa.1 (hu r y x)).2;have Ap:∀(r:ae) y x h,((T.set 3 y).set 4 x++r)[4]'h=x:=fun r y x h=>(aaa.1 (hy r y x)).2;have Vh:m.take 28=m:=aam an;have QK:m.drop 28=[]:=aap an
 have Vi:m.map V.jq=m:=by rw[B];simp[dN,au,aaw,V.jq]
 cases C:aW v with
 | false =>
  have hd:eo v w live=(0,none):=by simp[eo,C]
  simp[hd,<-B,l,JQ,JS,W,Y,Vh,QK,va,Ao,Ap,QE,Vi]
 | true =>
 cases hw:aW w with
 | false =>
  have hd:eo v w live=(0,none):=by simp[eo,C,hw]
  simp[hd,<-B,l,JQ,JS,W,Y,Vh,QK,va,Ao,Ap,QE,Vi]
 | true =>
 have QL:f=vcs (aH [] v).p (aH [] v).st .no:=by rw[QH,wJ,if_pos C]
 have hz:o=(aH [] v).L:=by rw[uF,yR,if_pos C]
 have QM:g=vcs (aH o w).p (aH o w).st .no:=by rw[Mr,wJ,if_pos hw]
 have hA:u=(aH o w).L:=by rw[QJ,yR,if_pos hw]
 have k1:=An Inv.nil v H;have k2:=An i1 w I;have s:eo v w live=eo v w live:=rfl
 conv at s=>rhs;rw[eo,C,hw,if_pos (show(true&&true)=true from rfl),<-hz,<-hA]
 obtain⟨P,hP⟩:∃ P,P=(aH [] v).p:=⟨_,rfl⟩;obtain⟨S,hS⟩:∃ S,S=(aH [] v).st:=⟨_,rfl⟩;obtain⟨Q,hQ⟩:∃ Q,Q=(aH o w).p:=⟨_,rfl⟩;obtain⟨R,hR⟩:∃ R,R=(aH o w).st:=⟨_,rfl⟩
 have pl:P.length=18:=by rw[hP];exact k1.len
 have ql:Q.length=18:=by rw[hQ];exact k2.len
 have sl:S.length<=1000000:=by
  have pY:v.length<=32:=by simp only[aW,aad,decide_eq_true_eq] at C;exact C.1
  have:=k1.st;rw[hS];omega
 rw[<-hP,<-hQ,<-hS,<-hR] at s;rw[<-hP,<-hS] at QL;rw[<-hQ,<-hR] at QM;have ha:=zEI (G:=G) P Q S R live gK pl ql sl;rw[<-QL,<-QM] at ha
 have m1:f.map V.jq=f:=by rw[QL];simp[vcs,mW,aaw,V.jq]
 have m2:g.map V.jq=g:=by rw[QM];simp[vcs,mW,aaw,V.jq]
 simp[l,QB,x1,x2,e1,e2,m1,m2,c1,c2];refine ax ha ?_
 cases Aq:u6 P Q S R live with
 | true =>
  rw[Aq,if_pos rfl] at s
  have At:V.int .i64 0::m.tail=m:=by rw[B];rfl
  simp[s,<-B,l,JQ,JS,W,Y,Vh,QK,va,Ao,Ap,QE,Vi,At]
 | false =>
  rw[Aq] at s;simp only[aax,if_false] at s;simp[l,QB,x1,x2,e1,e2]
  have hC:(T++[some (aw.cells f),some (aw.cells g)]).length=10:=by simp[l]
  have yN:=zEK (G:=G) (T++[some (aw.cells f),some (aw.cells g)]) 6 live f g c1 c2 m1 m2;rw[hC,aat] at yN;refine vb yN ir ?_;simp;subst B;obtain⟨E,hE⟩:∃ E,E=T++[some (aw.cells f),some (aw.cells g),some (.cells [.ptr 6 0]),some (.cells f),some (.cells g),some (.cells [.int .u32 live])]:=⟨_,rfl⟩
  have t:E.length=14:=by rw[hE];simp[l]
  obtain⟨i,F⟩:∃ i,i=E++[some (aw.loop js [46] sL sM .ready)]:=⟨_,rfl⟩
  have h7:i.length=15:=by rw[F];simp[t]
  have z:i=T++[some (aw.cells f),some (aw.cells g),some (.cells [.ptr 6 0]),some (.cells f),some (.cells g),some (.cells [.int .u32 live]),some (aw.loop js [46] sL sM .ready)]:=by rw[F,hE];simp
  have Vj:Bk E 6 7 5 u:=by rw[hE];refine ho.qP fun n hn=>?_;simp[l] at hn;simp[aw.cl,c1,c2,aX,V.cl,show 6<n by omega]
  have QN:Bk i 6 7 5 u:=by rw[F];refine Vj.qP fun n hn=>?_;simp[t] at hn;simp[aw.cl,js,V.cl,show 0<n by omega,show 1<n by omega,show 2<n by omega,show 3<n by omega,show 4<n by omega]
  have hb:i[14]?=some (some (.loop js [46] sL sM .ready)):=by rw[F];exact nY t
  have hc:Am i v w live:=⟨by rw[z];exact q0 _,by rw[z];exact q1 _,by rw[z];exact q2 _,by rw[z];exact q3 _,by rw[z];exact q4 _,hb,QN.shut⟩
  have Vk:i[10]?=some (some (.cells [.ptr 6 0])):=by rw[z];exact qO l 2
  have hF:i[11]?=some (some (.cells (vcs P S .no))):=by rw[z,<-QL];exact qO l 3
  have hG:i[12]?=some (some (.cells (vcs Q R .no))):=by rw[z,<-QM];exact qO l 4
  have hH:i[13]?=some (some (.cells [.int .u32 live])):=by rw[z];exact qO l 5
  have pD:=zzw (G:=G) QN i2 (id:=14) (i1:=13) (i2:=10) (i3:=11) (i4:=12) (live:=live) gK hH Vk hF hG pl ql an (hit:=fun r=>uX v w live (u9 r) (mF (r.drop 18))) (H':=ju i)
   (fun r hr hh X hX=>by
    obtain⟨gh,kf⟩:=Qz hr;have:=zzy (G:=G) (hc.app hX) hf hg H I gK C hw gh kf hh
    simpa using this)
   (fun r hr hh X hX=>by
    obtain⟨gh,kf⟩:=Qz hr;have:=zzy (G:=G) (hc.app hX) hf hg H I gK C hw gh kf hh;rw[zBW an] at this
    simpa using this)
   (fun r hr hh=>⟨by
    have:=(Vb QN.shut an r).self
    rwa[show(ju i r).length=i.length by simp[ju]] at this,by simp[ju]⟩)
  rw[<-hE];have he:=Vj.shut.self;rw[t] at he
  have pZ:look (ib [(3,V.ptr 0 0),(4,V.ptr 1 0),(5,V.ptr 2 0),(6,V.ptr 3 0),(7,V.ptr 4 0),(45,V.fn 310 [V.ptr 13 0,V.ptr 10 0,V.ptr 11 0,V.ptr 12 0])]) [3,4,5,6,7]=js:=by simp[js]
  cases oN:(rY u P Q live).find? (fun r=>uX v w live (u9 r) (mF (r.drop 18))) with
  | none =>
   rw[oN] at pD s
   have hI:aj 14 i=E:=by rw[F];have:=Vj.shut.back [some (aw.loop js [46] sL sM .ready)];rwa[t] at this
   refine Ml (as:=sL) (bo:=sM) (x:=.nx) (H2:=i) (r:=.a_ []) ?_ (by rw[t];exact hb) (.inl ⟨rfl,rfl⟩) ?_
   ·rw[t];rw[F] at pD;rw[F,pZ];exact pD
   rw[t,hI,hE];simp only[] at s;have At:∀ c,V.int .i64 c::(dN 0 none).tail=dN c none:=fun c=>rfl
   simp[s,l,JQ,JS,W,Y,QK,va,Ao,Ap,At,zun,QD,zwT,zzz]
  | some r =>
   rw[oN] at pD s;obtain⟨gh,kf⟩:=Qz (abP oN)
   have lA:(dN 1 (some r)).length=28:=by have h1:=JH (Vc gh kf);have h2:=C9 (Mp (w:=r.drop 18) (by simp[gh]) (fun x hx=>kf x (aaL hx)));simp only[dN,aau,aan,h1,h2]
   obtain⟨q,Fg⟩:∃ q,q=dN 1 (some r):=⟨_,rfl⟩
   have hj:∀ n,aX n q=q:=fun n=>by rw[Fg];exact QD _ _ n
   have hJ:q.map V.jq=q:=by rw[Fg];exact zwT _ _
   rw[<-Fg] at lA;have hK:q.take 28=q:=aam an
   have hL:ju i r=((T.set 3 (some (.cells q))).set 4 (some (.cells [.int .i64 0])))++[some (aw.cells f),some (aw.cells g),some (.cells [.ptr 6 0]),some (.cells f),some (.cells g),some (.cells [.int .u32 live]),some (.loop js [46] sL sM (.done .ret))]:=by rw[z,ju,<-Fg,W,Y];rw[ab3 _ _ (by simp;omega)];simp[l]
   have fH:=Vb QN.shut an r
   have Vl:(ju i r)[14]?=some (some (.loop js [46] sL sM (.done .ret))):=by unfold ju;exact aba (by simp;omega)
   have Ms:aj 14 (ju i r)=((T.set 3 (some (.cells q))).set 4 (some (.cells [.int .i64 0])))++[some (aw.cells f),some (aw.cells g),some (.cells [.ptr 6 0]),some (.cells f),some (.cells g),some (.cells [.int .u32 live])]:=by
    have hM:E.map (aaB (aw.cl 14))=E:=by have:=he;unfold aj at this;rwa[aam an] at this
    have hN:aj 14 ((E.set 3 (some (.cells q))).set 4 (some (.cells [.int .i64 0])))=(E.set 3 (some (.cells q))).set 4 (some (.cells [.int .i64 0])):=by unfold aj;rw[aam (by simp;omega),abB,abB,hM];simp[aw.cl,hj,aX,V.cl]
    have hl:(E.set 3 (some (.cells q))).set 4 (some (.cells [.int .i64 0]))=((T.set 3 (some (.cells q))).set 4 (some (.cells [.int .i64 0])))++[some (aw.cells f),some (aw.cells g),some (.cells [.ptr 6 0]),some (.cells f),some (.cells g),some (.cells [.int .u32 live])]:=by rw[hE,W,Y]
    have qQ:ju i r=((E.set 3 (some (.cells q))).set 4 (some (.cells [.int .i64 0])))++[some (.loop js [46] sL sM (.done .ret))]:=by rw[hl,hL];simp
    rw[qQ,Mc hN (by simp;exact t),hl]
   refine Ml (as:=sL) (bo:=sM) (x:=.ret) (H2:=ju i r) (r:=.a_ []) ?_ (by rw[t];exact Vl) (.inr ⟨rfl,by decide⟩) ?_
   ·rw[t];rw[pZ,<-F];exact pD
   rw[t,Ms];simp only[] at s;simp[s,l,lA,hK,hj,hJ,Ao,Ap,<-Fg]
open Go Go.RowKit
variable {G:aM}
def zzA{v w:List af}{live:Nat}{s:St}{d:Da}(l:∀ x∈v,x.k<4294967296)(m:∀ x∈w,x.k<4294967296)(f:s.ok)(hd:d.ok)(I:aW v=true)(J:aW w=true)
  (h:u6 (aH [] v).p (aH (aH [] v).L w).p (aH [] v).st (aH (aH [] v).L w).st live=true):uX v w live s d=false:=by
 have z:=An Inv.nil v l;have K:=An z.ext.inv w m;have o:=(QO Inv.nil f hd l I).ext K.ext;have g:=QO z.ext.inv f hd m J;obtain⟨M,r⟩:=U9.1 h;have N:=E7 d v s;have O:=E7 d w s;rw[<-r] at g
 have c:∀{p q:List Int} {st:List Int} {a b:List af} {L:List Nd},WV (eT s d) L p st a d s->WV (eT s d) L q st b d s->(b_ d a s).2<a.length->(b_ d b s).2<=b.length->(b_ d b s).2<b.length:=fun{p q st a b L} A B P t=>by
  rcases Nat.lt_or_ge (b_ d b s).2 b.length with h|h
  ·exact h
  ·exfalso;have Q:(b_ d b s).2=b.length:=Nat.le_antisymm t h;obtain⟨x,C,_,R⟩:=A.stop P;have D:=(aaa.1 C).1;rw[B.num,<-Q] at D;obtain⟨y,n,E,_,F,S⟩:=B.ahead _ D;rw[C] at E;cases E;rw[R] at F;cases F;exact S rfl
 unfold uX
 by_cases i:(b_ d v s).2<v.length
 ·have u:=c o g i O;simp[i,u]
 ·have u:¬(b_ d w s).2<w.length:=fun h=>i (c g o h N);rw[if_neg (by simp[i,u])];have T:=o.done an;have U:=g.done an;refine zsE fun j e=>?_;unfold xM
  cases V:yL live j with
  | false=>rfl
  | true =>
   have G:=M j e;simp only[Ak,V,aaS,bne_eq_false_iff_eq] at G;have W:=E6 hd v s f l;have X:=E6 hd w s f m;rw[aaS,bne_eq_false_iff_eq,Vm W e,Vm X e];have H:=(T.val j e).2;have Y:=(U.val j e).2;rw[G,Y] at H;exact(abb.inj H).symm
def l9{v w:List af}{live:Nat}(d:aW v=true)(e:aW w=true) :
  eo v w live=(0,none)/\u6 (aH [] v).p (aH (aH [] v).L w).p (aH [] v).st (aH (aH [] v).L w).st live=true \/
  (∃ r,eo v w live=(1,some r)/\r∈rY (aH (aH [] v).L w).L (aH [] v).p (aH (aH [] v).L w).p live/\uX v w live (u9 r) (mF (r.drop 18))=true/\u6 (aH [] v).p (aH (aH [] v).L w).p (aH [] v).st (aH (aH [] v).L w).st live=false) \/
  eo v w live=(2,none)/\(∀ r∈rY (aH (aH [] v).L w).L (aH [] v).p (aH (aH [] v).L w).p live,uX v w live (u9 r) (mF (r.drop 18))=false)/\u6 (aH [] v).p (aH (aH [] v).L w).p (aH [] v).st (aH (aH [] v).L w).st live=false:=by
 have a:eo v w live=eo v w live:=rfl
 conv at a=>rhs;rw[eo,d,e,if_pos (show(true&&true)=true from rfl)]
 cases c:u6 (aH [] v).p (aH (aH [] v).L w).p (aH [] v).st (aH (aH [] v).L w).st live with
 | true =>
  rw[c,if_pos rfl] at a
  exact .inl ⟨a,rfl⟩
 | false =>
  rw[c] at a;simp only[aax,if_false] at a
  cases b:(rY (aH (aH [] v).L w).L (aH [] v).p (aH (aH [] v).L w).p live).find? (fun r=>uX v w live (u9 r) (mF (r.drop 18))) with
  | none =>
   rw[b] at a;refine .inr (.inr ⟨a,fun r f=>?_,rfl⟩);have:=abJ.1 b r f
   simpa using this
  | some r =>
   rw[b] at a;have g:=List.find?_some b;exact .inr (.inl ⟨r,a,abP b,g,rfl⟩)
def zye{r:List Nat}(b:r.length=34)(d:∀ x∈r,x<4294967296)(c:Int):(dN c (some r)).length=28/\(dN c (some r)).tail.take 18=(u9 r).cs/\(dN c (some r)).drop 19=(mF (r.drop 18)).cs:=by
 have a:=JH (Vc b d);have e:=C9 (Mp (w:=r.drop 18) (by simp[b]) (fun x f=>d x (aaL f)));refine⟨by simp only[dN,aau,aan,a,e],?_,?_⟩
 ·simp only[dN,List.tail_cons];rw[acx a]
 ·simp only[dN];rw[abl,abD a]
def zwU(c:Int)(o:Option (List Nat)):(dN c o).take 1=[.int .i64 c]:=by cases o<;>rfl
def zuo(v w:List af)(live:Nat):(dN (eo v w live).1 (eo v w live).2).length=28:=by
 cases a:aW v&&aW w with
 | false =>
  have b:eo v w live=(0,none):=by simp[eo,a]
  rw[b];rfl
 | true =>
  simp only[aad] at a
  rcases l9 (live:=live) a.1 a.2 with⟨e,_⟩|⟨r,e,c,_,_⟩|⟨e,_,_⟩
  ·rw[e];rfl
  ·obtain⟨d,f⟩:=Qz c;rw[e];exact(zye d f 1).1
  ·rw[e];rfl
def Ar(f:List af)(a m:Nat):Bool:=(aay m).all fun j=>!qL f f.length (a+1+j)
def zyf(f:List af)(a m:Nat):Ar f a (m+1)=(Ar f a m&&!qL f f.length (a+1+m)):=by simp[Ar,abm,List.all_append]
def zwf{f:List af}{a m n:Nat}(h:qL f f.length (a+1+m)=true)(b:m<n):Ar f a n=false:=by rw[<-abS,Ar,aaY];intro c;have:=c m (aaA.2 b);rw[h] at this;cases this
def r7(f:List af)(a n:Nat):Bool:=aW ((f.drop a).take n)&&Ar f a (n-1)
def As(f:List af)(a n:Int):Bool:=decide (0<=a/\1<=n/\a<f.length/\n<=f.length-a)
def uH(f:List af)(a n:Int):Bool:=As f a n&&r7 f a.toNat n.toNat
def Au(f:List af)(a n:Int):Bool:=dB f&&uH f a n
def JU{f:List af}(a:dB f=true):f.length<=4096:=by simp only[dB,aad,decide_eq_true_eq] at a;exact a.1.1
def Mu{f:List af}(b:∀ x∈f,x.k<4294967296)(a n:Nat):∀ x∈(f.drop a).take n,x.k<4294967296:=fun x c=>b x (aaL (abk c))
def zwV[az G][ay G][aN G][eI G](f:List af)(a n:Int)(t:dB f=true)(u:∀ x∈f,x.k<4294967296) :
  FP G 205 [FL f,.vs (nS (iL f f.length)) .no,.int .i64 a,.int .i64 n] (.bool (uH f a n)):=by
 refine bD eI.ads (aah rfl) ?_;have F:=JU t
 have H:maxLen=9223372036854775807:=by decide
 by_cases b:a<0
 ·have:uH f a n=false:=by simp[uH,As,show¬0<=a by omega]
  simp[b,this]
 by_cases c:n<1
 ·have:uH f a n=false:=by simp[uH,As,show¬1<=n by omega]
  simp[b,c,this]
 by_cases d:(f.length:Int)<=a
 ·have:uH f a n=false:=by simp[uH,As,show¬a<f.length by omega]
  simp[b,c,d,FL,this]
 have p:c_ .i64 (f.length:Int) a=(f.length:Int)-a:=by rw[oW]<;>omega
 by_cases g:(f.length:Int)-a<n
 ·have:uH f a n=false:=by simp[uH,As,show¬n<=f.length-a by omega]
  simp[b,c,d,g,p,FL,this]
 have v:As f a n=true:=by simp only[As,decide_eq_true_eq];omega
 obtain⟨a,rfl⟩:=aa3 (show 0<=a by omega);obtain⟨n,rfl⟩:=aa3 (show 0<=n by omega)
 have w:uH f (a:Int) (n:Int)=r7 f a n:=by simp[uH,v]
 rw[w];have b:((a:Int)<0)=False:=eq_false b;have y:((n:Int)<1)=False:=eq_false c;have c:(n=0)=False:=eq_false an;have d:((f.length:Int)<=(a:Int))=False:=eq_false d;have g:((f.length:Int)-(a:Int)<(n:Int))=False:=eq_false g
 have I:a+n<=f.length:=an
 have h:aE .i64 (a:Int) (n:Int)=((a+n:Nat):Int):=qM an;have z:aE .i64 (a:Int) 1=((a+1:Nat):Int):=bH an;have q:=Af (G:=G) ((f.drop a).take n) (by rw[aav];omega) (Mu u a n)
 have A:List.take n (List.drop a (IL f))=IL ((f.drop a).take n):=by rw[Vn,Vo]
 have J:=Qw f f.length;simp only[FL] at q;simp(disch:=omega)[b,y,d,g,p,FL,h,aC,A,-aab];refine ax q ?_;cases e:aW ((f.drop a).take n)
 ·simp[r7,e]
 have B:r7 f a n=Ar f a (n-1):=by simp[r7,e]
 rw[B];simp[z,-aab];refine aQ (n-1) (fun j=>[(1,.vs (nS (iL f f.length)) .no),(2,.int .i64 a),(3,.int .i64 n),(9,.int .i64 ((a+1+j:Nat):Int))]) (fun _=>[]) (fun j=>Ar f a j=true) ?_ ?_
 ·simp[av,aj,Ar]
 intro j K r
 by_cases s:j<n-1
 ·have i:((a+1+j:Nat):Int)<((a+n:Nat):Int):=an
  have o:=JN f f.length (a+1+j) an;obtain⟨_,l⟩:=aaa.1 o;have C:aE .i64 ((a+1+j:Nat):Int) 1=((a+1+(j+1):Nat):Int):=bH an;cases m:qL f f.length (a+1+j)
  ·rw[m] at o l
   have D:Ar f a (j+1)=true:=by rw[zyf,r,m];rfl
   simp(disch:=omega)[h,bM i,l,s,C,D,av,aj,-aab]
  ·rw[m] at o l;have:=zwf m s;simp(disch:=omega)[h,bM i,l,this,-aab]
 ·have E:j=n-1:=an
  subst E
  have i:¬((a+1+(n-1):Nat):Int)<((a+n:Nat):Int):=an
  simp[h,kQ i,r,-aab]
def zEL[az G][ay G][aN G][eI G](f:List af)(a n:Int)(d:f.length<=maxLen)(c:∀ x∈f,x.k<4294967296) :
  FP G 206 [FL f,.int .i64 a,.int .i64 n] (.bool (Au f a n)):=by
 refine bD eI.adt (aah rfl) ?_;have e:=JV (G:=G) f d c;simp;refine ax e ?_;cases b:dB f
 ·simp[Au,b]
 ·simp;refine ax (zqw f b c) ?_;simp;refine ax (zwV f a n b c) ?_;simp[Au,b]
def dV(a e b i d:Nat):Nat:=if i<a/\e<=i+1+d then d-b else d
def dW(a e b i:Nat)(x:af):af:=if x.op=5 then{ x with k:=dV a e b i x.k } else if bf x.op then{ x with jt:=(dV a e b i x.jt.toNat:Nat),jf:=(dV a e b i x.jf.toNat:Nat) } else x
def pre(f:List af)(a e b m:Nat):List af:=(aay m).map fun i=>dW a e b i (f.getD i u5)
def eU(f:List af)(a n:Nat)(w:List af):List af:=pre f a (a+n) (n-w.length) a++w++f.drop (a+n)
def QQ(f:List af)(a n:Int)(w:List af):Bool:=Au f a n&&aW w&&decide ((w.length:Int)<=n)
def xU(f:List af)(a n:Nat)(w:List af)(i:Nat):List af :=
 if i<=a then pre f a (a+n) (n-w.length) i else pre f a (a+n) (n-w.length) a++w++(f.take i).drop (a+n)
def zBY(f:List af)(a e b m:Nat):pre f a e b (m+1)=pre f a e b m++[dW a e b m (f.getD m u5)]:=by simp[pre,abm]
def Fi(f:List af)(a e b m:Nat):(pre f a e b m).length=m:=by simp[pre]
def zzB{f:List af}{a n:Nat}{w:List af}{i:Nat}(hi:i<=f.length)(b:w.length<=32):(xU f a n w i).length<=i+32:=by
 unfold xU;split
 ·rw[Fi];omega
 ·simp only[aan,Fi,aa4,aav];omega
def zzC{f:List af}{a n:Nat}{w:List af}(h:a+n<=f.length)(b:0<n):xU f a n w f.length=eU f a n w:=by rw[xU,if_neg an,aaX,eU]
def zEM[eI G](a e b i d:Nat)(z:aw)(y:List V)(hi:i<=5000)(hd:d<4294967296)(m:b<=d+5000)(g:i<a->e<=i+1+d->b<=d) :
  bA G (.F 207 [.int .i64 i,.int .i64 d,.ptr 0 0,.ptr 1 0,.ptr 2 0] [some (.cells [.int .i64 a]),some (.cells [.int .i64 e]),some (.cells [.int .i64 b]),some z,some (.cells y)] (.int .i64 (dV a e b i d:Nat))
   [some (.cells [.int .i64 a]),some (.cells [.int .i64 e]),some (.cells [.int .i64 b]),some z,some (.cells y)]):=by
 refine ee eI.adu (aah rfl) ?_;have j:aE .i64 (i:Int) 1=((i+1:Nat):Int):=bH an;have k:aE .i64 ((i+1:Nat):Int) (d:Int)=((i+1+d:Nat):Int):=qM an
 by_cases c:i<a
 ·by_cases l:e<=i+1+d
  ·have f:c_ .i64 (d:Int) (b:Int)=((dV a e b i d:Nat):Int):=by
    have:=g c l
    rw[dV,if_pos ⟨c,l⟩,oW]<;>omega
   have h:((e:Int)<=((i+1+d:Nat):Int))=True:=eq_true an;simp[c,j,k,h,f,-aab]
  ·have f:dV a e b i d=d:=by rw[dV,if_neg an]
   have h:((e:Int)<=((i+1+d:Nat):Int))=False:=eq_false an;simp[c,j,k,h,f,-aab]
 ·have f:dV a e b i d=d:=by rw[dV,if_neg an]
  simp[c,f]
def zGk[az G][ay G][aN G][eI G](f w:List af)(a n:Nat)(hf:f.length<=maxLen)(hw:w.length<=maxLen)(W:∀ x∈f,x.k<4294967296)(mQ:∀ x∈w,x.k<4294967296)(h:QQ f a n w=true) :
  FP G 208 [FL f,.int .i64 a,.int .i64 n,FL w] (.a_ [.vs (IL (eU f a n w)) .no,.int .i64 0]):=by
 refine bD eI.adv (aah rfl) ?_;have I:=zEL (G:=G) f a n hf W;have J:=Af (G:=G) w hw mQ;simp only[QQ,aad,decide_eq_true_eq] at h;obtain⟨⟨E,F⟩,h3⟩:=h;rw[E] at I;rw[F] at J;simp only[Au,uH,As,aad,decide_eq_true_eq] at E;obtain⟨X,⟨_,i2,i3,i4⟩,lG⟩:=E;simp only[abK] at lG;have Y:=JU X
 have pY:w.length<=32:=by simp only[aW,aad,decide_eq_true_eq] at F;exact F.1
 have qt:a+n<=f.length:=an
 have Mv:((n:Int)<(w.length:Int))=False:=eq_false an;have aa:aE .i64 (a:Int) (n:Int)=((a+n:Nat):Int):=qM an
 have ss:c_ .i64 (n:Int) (w.length:Int)=((n-w.length:Nat):Int):=by rw[oW]<;>omega
 simp only[FL] at I J;simp[FL];refine ax I ?_;simp;refine ax J ?_;simp[Mv,aa,ss,-aab];obtain⟨T,m⟩:∃ T:Nat->List af,∀ j,T j=xU f a n w j:=⟨_,fun _=>rfl⟩
 have v5:T 0=[]:=by rw[m,xU,if_pos an];rfl
 refine aQ f.length (fun i=>[(3,FL w),(5,.ptr 0 0),(10,.ptr 1 0),(12,.fn 207 [.ptr 0 0,.ptr 1 0,.ptr 2 0]),(13,.vs (IL (T i)) (.own 3)),(40,FL f),(41,.int .i64 f.length),(42,.int .i64 i)])
  (fun i=>[some (.cells [.int .i64 a]),some (.cells [.int .i64 ((a+n:Nat):Int)]),some (.cells [.int .i64 ((n-w.length:Nat):Int)]),some (.zone (T i).length)]) (fun _=>True) ?_ ?_
 ·simp[av,aj,FL,v5]
 intro i hi _
 by_cases e:i<f.length
 ·have mY:(T i).length<=i+32:=by rw[m];exact zzB hi pY
  obtain⟨x,B⟩:∃ x,x=f[i]:=⟨_,rfl⟩;have p:=tF e;rw[<-B] at p;have B:=B.symm
  have K:f[i]?=some x:=by rw[aae e,B]
  have hD:f.getD i u5=x:=by rw[aaV,K];rfl
  have mj:x∈f:=B▸aaW e;have H:=W x mj;have L:=L_ X K;have q:x.cs=[.int .i64 x.op,.int .i64 x.jt,.int .i64 x.jf,.int .u32 (x.k:Int)]:=rfl;have M:=yM (G:=G) x;simp[IV,q] at M;have Mw:((a:Int)<=(i:Int))=(a<=i):=propext an
  by_cases Z:i=a
  ·have r:((i:Int)==(a:Int))=true:=by simp[Z]
   have v:T (i+1)=T i++w:=by rw[m,m,xU,xU,if_neg an,if_pos an,Z];rw[aap (by rw[aav];omega)];simp
   have s:(T (i+1)).length=(T i).length+w.length:=by rw[v];simp
   have t:((i:Int)<((a+n:Nat):Int))=True:=eq_true an;have l:((a:Int)<=(i:Int))=True:=eq_true an
   have b:IL (T i)++IL w=IL (T (i+1)):=by rw[zAo,v]
   by_cases Dr:w=[]
   ·subst Dr
    have C:T (i+1)=T i:=by rw[v];simp
    simp(disch:=omega)[bM,FL,p,q,r,t,l,C,e,bH,av,aj,-aab]
   ·simp(disch:=omega)[bM,FL,p,q,r,t,l,QR,Dr,aC,b,s,e,bH,av,aj,-aab]
  have r:((i:Int)==(a:Int))=false:=aO an
  by_cases ha:a<=i/\i<a+n
  ·have C:T (i+1)=T i:=by rw[m,m,xU,xU,if_neg an,if_neg an];rw[aap (by rw[aav];omega),aap (by rw[aav];omega)]
   have t:((i:Int)<((a+n:Nat):Int))=True:=eq_true an;have l:((a:Int)<=(i:Int))=True:=eq_true an;simp(disch:=omega)[bM,FL,p,q,r,t,l,C,e,bH,av,aj,-aab]
  have v:T (i+1)=T i++[dW a (a+n) (n-w.length) i x]:=by
   rw[m,m]
   by_cases tI:i<a
   ·rw[xU,xU,if_pos an,if_pos an,zBY,hD]
   ·have Av:∀ d,dV a (a+n) (n-w.length) i d=d:=fun d=>by rw[dV,if_neg an]
    have JI:dW a (a+n) (n-w.length) i x=x:=by
     unfold dW;simp only[Av];obtain⟨op,jt,jf,k⟩:=x
     by_cases c:op=5
     ·simp[c]
     ·cases o:bf op
      ·simp[c]
      ·obtain⟨N,O,P,Q⟩:=L o;simp only at N O P Q;simp[c];omega
    have mP:(f.take (i+1)).drop (a+n)=(f.take i).drop (a+n)++[x]:=by rw[aaM,K,acg,List.drop_append_of_le_length (by rw[aav];omega)]
    rw[JI,xU,xU,if_neg an,mP]
    by_cases Vp:i<=a
    ·omega
    ·rw[if_neg Vp,<-aat]
  have s:(T (i+1)).length=(T i).length+1:=by rw[v];simp
  have z:∀ d:Nat,d<4294967296->_:=fun d hd=>zEM (G:=G) a (a+n) (n-w.length) i d (.zone (T i).length) x.cs an hd an (fun E F=>by omega)
  have wK:∀ d:Nat,dV a (a+n) (n-w.length) i d<=d:=fun d=>by unfold dV;split<;>omega
  have A:∀ y:af,y=dW a (a+n) (n-w.length) i x->IL (T i)++[y.cs]=IL (T (i+1)):=fun y hy=>by rw[v,hy];exact Mx _ _
  by_cases hb:a<=i
  ·have l:((a:Int)<=(i:Int))=True:=eq_true an;have t:((i:Int)<((a+n:Nat):Int))=False:=eq_false an
   by_cases c:x.op=5
   ·have u:(x.op==5)=true:=by simp[c]
    have R:=E9 x.k H;have g:=z x.k H
    have S:fV .u32 ((dV a (a+n) (n-w.length) i x.k:Nat):Int)=((dV a (a+n) (n-w.length) i x.k:Nat):Int):=by unfold fV;exact vY (by have:=wK x.k;omega)
    have b:=A ⟨x.op,x.jt,x.jf,dV a (a+n) (n-w.length) i x.k⟩ (by simp[dW,c]);simp only[af.cs] at g b;simp(disch:=omega)[bM,FL,p,q,r,l,t,u,R,-aab];refine kj g ir ?_;simp(disch:=omega)[aj,S,aC,b,s,e,bH,av,-aab]
   have u:(x.op==5)=false:=aO c;simp(disch:=omega)[bM,FL,p,q,r,l,t,u,-aab];refine ax M ?_;cases o:bf x.op
   ·have b:=A x (by simp[dW,c,o]);simp only[af.cs] at b;simp(disch:=omega)[aC,b,s,e,bH,av,aj,-aab]
   ·obtain⟨N,O,P,Q⟩:=L o;have g:=z x.jt.toNat an;have D:=z x.jf.toNat an;have b:=A ⟨x.op,(dV a (a+n) (n-w.length) i x.jt.toNat:Nat),(dV a (a+n) (n-w.length) i x.jf.toNat:Nat),x.k⟩ (by simp[dW,c,o])
    have U:((x.jt.toNat:Nat):Int)=x.jt:=an
    have V:((x.jf.toNat:Nat):Int)=x.jf:=an
    simp only[af.cs,U,V] at g D b;simp;refine kj g (by simp[aj]) ?_;simp[aj];refine kj D (by simp[aj]) ?_;simp(disch:=omega)[aj,aC,b,s,e,bH,av,-aab];omega
  ·have l:((a:Int)<=(i:Int))=False:=eq_false an
   by_cases c:x.op=5
   ·have u:(x.op==5)=true:=by simp[c]
    have R:=E9 x.k H;have g:=z x.k H
    have S:fV .u32 ((dV a (a+n) (n-w.length) i x.k:Nat):Int)=((dV a (a+n) (n-w.length) i x.k:Nat):Int):=by unfold fV;exact vY (by have:=wK x.k;omega)
    have b:=A ⟨x.op,x.jt,x.jf,dV a (a+n) (n-w.length) i x.k⟩ (by simp[dW,c]);simp only[af.cs] at g b;simp(disch:=omega)[bM,FL,p,q,r,l,u,R,-aab];refine kj g ir ?_;simp(disch:=omega)[aj,S,aC,b,s,e,bH,av,-aab]
   have u:(x.op==5)=false:=aO c;simp(disch:=omega)[bM,FL,p,q,r,l,u,-aab];refine ax M ?_;cases o:bf x.op
   ·have b:=A x (by simp[dW,c,o]);simp only[af.cs] at b;simp(disch:=omega)[aC,b,s,e,bH,av,aj,-aab]
   ·obtain⟨N,O,P,Q⟩:=L o;have g:=z x.jt.toNat an;have D:=z x.jf.toNat an;have b:=A ⟨x.op,(dV a (a+n) (n-w.length) i x.jt.toNat:Nat),(dV a (a+n) (n-w.length) i x.jf.toNat:Nat),x.k⟩ (by simp[dW,c,o])
    have U:((x.jt.toNat:Nat):Int)=x.jt:=an
    have V:((x.jf.toNat:Nat):Int)=x.jf:=an
    simp only[af.cs,U,V] at g D b;simp;refine kj g (by simp[aj]) ?_;simp[aj];refine kj D (by simp[aj]) ?_;simp(disch:=omega)[aj,aC,b,s,e,bH,av,-aab];omega
 ·have aB:i=f.length:=an
  subst aB
  have C:T f.length=eU f a n w:=by rw[m,zzC qt an]
  simp[C]
abbrev Pc:=Nat×Nat
def pr(c:Nat->Bool)(a k j:Nat):List Pc:=(aay j).flatMap fun i=>if c (k-i) then [(a,k-i)] else []
def JW(c:Nat->Bool)(a k j:Nat):pr c a k (j+1)=pr c a k j++(if c (k-j)=true then [(a,k-j)] else []):=by simp[pr,abm,ab_]
def QT(c:Nat->Bool)(a:Nat):∀(d k:Nat),(∀ m,k<m->m<=k+d->c m=false)->∀ j,pr c a (k+d) (d+j)=pr c a k j
 | 0,k,_,j=>by simp
 | d+1,k,h,0=>by
  have:=QT c a d (k+1) (fun m e f=>h m an an) 1;rw[show k+(d+1)=k+1+d by omega,show d+1+0=d+1 by omega,this]
  simp[pr,h (k+1) an an]
 | d+1,k,h,j+1=>by
  have b:=QT c a (d+1) k h j;rw[show d+1+(j+1)=(d+1+j)+1 by omega,JW,b,JW];rw[show k+(d+1)-(d+1+j)=k-j by omega]
def Vq(c:Nat->Bool)(a k:Nat):∀ j,(pr c a k j).length<=j
 | 0=>by simp[pr]
 | j+1=>by
  rw[JW,aan];have:=Vq c a k j
  split<;>simp<;>omega
def qR(f:List af)(most:Int)(a m:Nat):Bool:=decide ((m:Int)<=most)&&decide ((m:Int)<=f.length-a)&&Au f a m
def rows(f:List af)(most:Int)(a:Nat):List Pc:=(aay a).flatMap fun b=>pr (qR f most b) b 32 31
def QV(f:List af)(most:Int)(a:Nat):rows f most (a+1)=rows f most a++pr (qR f most a) a 32 31:=by simp[rows,abm,ab_]
def Vr(f:List af)(most:Int):∀ a,(rows f most a).length<=31*a
 | 0=>by simp[rows]
 | a+1=>by
  rw[QV,aan];have:=Vr f most a;have:=Vq (qR f most a) a 32 31;omega
def zwW{c:Nat->Bool}(h:∀ m,c m=false)(a k:Nat):∀ j,pr c a k j=[]
 | 0=>rfl
 | j+1=>by rw[JW,zwW h a k j,h];rfl
def zsH{f:List af}(h:dB f=false)(most:Int):∀ a,rows f most a=[]
 | 0=>rfl
 | a+1=>by rw[QV,zsH h most a,zwW (fun m=>by simp[qR,Au,h])];rfl
def zGl{f:List af}{most:Int}{a:Nat}(k:Int)(g:k=min most (min ((f.length:Int)-a) 32)):pr (qR f most a) a 32 31=pr (qR f most a) a k.toNat (k.toNat-1):=by
 by_cases e:k<1
 ·have:∀ m,1<=m->m<=32->qR f most a m=false:=by
   intro m d b
   by_cases c:(m:Int)<=most
   ·have:¬(m:Int)<=f.length-a:=an
    simp[qR,this]
   ·simp[qR,c]
  have b:=QT (qR f most a) a 31 1 (fun m d e=>this m an an) 0;simp only[abt] at b;rw[show k.toNat-1=0 by omega,b];rfl
 ·have b:=QT (qR f most a) a (32-k.toNat) k.toNat (fun m d b=>by
   by_cases c:(m:Int)<=most
   ·have:¬(m:Int)<=f.length-a:=an
    simp[qR,this]
   ·simp[qR,c]) (k.toNat-1)
  rw[show k.toNat+(32-k.toNat)=32 by omega,show 32-k.toNat+(k.toNat-1)=31 by omega] at b;exact b
def v8(l:List Pc):List (List V):=l.map fun p=>[.int .i64 (p.1:Int),.int .i64 (p.2:Int)]
@[simp] theorem zGm (l:List Pc):(v8 l).length=l.length:=by simp[v8]
@[simp] theorem zL3:v8 []=[]:=rfl
@[simp] theorem zqx (l:List Pc) (a m:Nat):v8 l++[[V.int .i64 (a:Int),.int .i64 (m:Int)]]=v8 (l++[(a,m)]):=by simp[v8]
@[simp] theorem zL4 (l:List Pc) (i:Nat):(v8 l)[i]?=(l[i]?).map fun p=>[.int .i64 (p.1:Int),.int .i64 (p.2:Int)]:=by simp[v8]
@[simp] theorem zMs (l:List Pc):(∀ f∈v8 l,f.length=2)=True:=by simp only[eq_iff_iff,iff_true];intro f a;simp only[v8,aa0] at a;obtain⟨x,_,rfl⟩:=a;rfl
theorem zzD[az G][ay G][aN G][eI G](f:List af)(most:Int)(p:f.length<=maxLen)(g:∀ x∈f,x.k<4294967296)(I:-9223372036854775808<=most/\most<=9223372036854775807) :
  FP G 209 [FL f,.int .i64 most] (.vs (v8 (rows f most f.length)) .no):=by
 refine bD eI.adw (aah rfl) ?_;have q:=JV (G:=G) f p g;simp;refine ax q ?_;cases d:dB f
 ·rw[zsH d];simp
 have J:=JU d;simp;refine ax (zqw f d g) ?_;simp[FL];refine aQ f.length (fun a=>[(0,FL f),(1,.int .i64 most),(5,.vs (nS (iL f f.length)) .no),(6,.vs (v8 (rows f most a)) (.own 0)),(15,.int .i64 f.length),(16,.int .i64 a)]) (fun a=>[some (.zone (rows f most a).length)]) (fun _=>True) ?_ ?_
 ·simp[av,aj,FL,rows]
 intro a K _;have L:=Vr f most a
 by_cases r:a<f.length
 ·obtain⟨k,s⟩:∃ k,k=min most (min ((f.length:Int)-a) 32):=⟨_,rfl⟩;have t:=zGl k s
  have u:c_ .i64 (f.length:Int) (a:Int)=(f.length:Int)-a:=by rw[oW]<;>omega
  have v:(if 32<if(f.length:Int)-(a:Int)<most then(f.length:Int)-(a:Int) else most then 32 else if(f.length:Int)-(a:Int)<most then(f.length:Int)-(a:Int) else most)=k:=an
  simp(disch:=omega)[bM,FL,u,r8,My,v,-aab];obtain⟨T,b⟩:∃ T:Nat->List Pc,∀ j,T j=rows f most a++pr (qR f most a) a k.toNat j:=⟨_,fun _=>rfl⟩
  have w:T 0=rows f most a:=by rw[b];simp[pr]
  refine aQ (k.toNat-1) (fun j=>[(0,FL f),(1,.int .i64 most),(5,.vs (nS (iL f f.length)) .no),(6,.vs (v8 (T j)) (.own 0)),(7,.int .i64 a),(8,.int .i64 (k-j)),(15,.int .i64 f.length),(16,.int .i64 a)])
   (fun j=>[some (.zone (T j).length)]) (fun _=>True) ?_ ?_
  ·simp[av,aj,FL,w]
  intro j M _;have N:=Vq (qR f most a) a k.toNat j
  have O:(T j).length<=31*a+j:=by rw[b,aan];omega
  have c:=JW (qR f most a) a k.toNat j
  by_cases l:j<k.toNat-1
  ·have P:(2:Int)<=k-j:=an
   have y:k-(j:Int)=((k.toNat-j:Nat):Int):=an
   have m:=zwV (G:=G) f a ((k.toNat-j:Nat):Int) d g
   have n:c_ .i64 ((k.toNat-j:Nat):Int) 1=k-((j+1:Nat):Int):=by rw[oW]<;>omega
   have h:((2:Int)<=((k.toNat-j:Nat):Int))=True:=eq_true an
   have z:qR f most a (k.toNat-j)=uH f a ((k.toNat-j:Nat):Int):=by
    have A:((k.toNat-j:Nat):Int)<=most:=an
    have B:((k.toNat-j:Nat):Int)<=f.length-a:=an
    simp[qR,A,B,Au,d]
   simp only[FL] at m;rw[z] at c;rw[y];simp(disch:=omega)[h,FL,-aab];refine ax m ?_;cases e:uH f a ((k.toNat-j:Nat):Int)
   ·rw[e] at c
    have C:T (j+1)=T j:=by rw[b,b,c];simp
    simp(disch:=omega)[n,l,C,av,aj,-aab]
   ·rw[e] at c;simp only[if_true] at c
    have o:T (j+1)=T j++[(a,k.toNat-j)]:=by rw[b,b,c,aat]
    have D:(T (j+1)).length=(T j).length+1:=by rw[o];simp
    have E:v8 (T j)++[[V.int .i64 (a:Int),.int .i64 ((k.toNat-j:Nat):Int)]]=v8 (T (j+1)):=by rw[zqx,o]
    simp(disch:=omega)[aC,E,D,n,l,av,aj,-aab,-zqx]
  ·have i:j=k.toNat-1:=an
   subst i;have F:((2:Int)<=k-((k.toNat-1:Nat):Int))=False:=eq_false an
   have H:T (k.toNat-1)=rows f most (a+1):=by rw[b,<-t,<-QV]
   rw[H];simp(disch:=omega)[F,r,bH,av,aj,FL,-aab]
 ·have i:a=f.length:=an
  subst i;simp
def Hf(t:Tk)(l:List Pc):List (List V):=l.map fun p=>[.vs [[.int .i64 (p.1:Int)],[.int .i64 (p.2:Int)]] t]
@[simp] theorem zGn (t:Tk) (l:List Pc):(Hf t l).length=l.length:=by simp[Hf]
@[simp] theorem zL5 (t:Tk):Hf t []=[]:=rfl
@[simp] theorem zL6 (t:Tk) (l:List Pc) (i:Nat):(Hf t l)[i]?=(l[i]?).map fun p=>[.vs [[.int .i64 (p.1:Int)],[.int .i64 (p.2:Int)]] t]:=by simp[Hf]
@[simp] theorem zMt (t:Tk) (l:List Pc):(∀ f∈Hf t l,f.length=1)=True:=by simp only[eq_iff_iff,iff_true];intro f a;simp only[Hf,aa0] at a;obtain⟨x,_,rfl⟩:=a;rfl
theorem zzE{c:Nat->Bool}{a k:Nat}{p:Pc}:∀{j:Nat},p∈pr c a k j->p.1=a/\c p.2=true/\p.2<=k/\k<p.2+j
 | 0,h=>by simp[pr] at h
 | j+1,h=>by
  rw[JW,aaD] at h
  rcases h with h|h
  ·obtain⟨b,d,e,g⟩:=zzE h;exact⟨b,d,e,an⟩
  ·split at h
   ·rename_i f;simp only[aaI] at h;subst h;exact⟨rfl,f,ir,by simp only;omega⟩
   ·cases h
def QW{f:List af}{most:Int}{p:Pc}:∀{n:Nat},p∈rows f most n->p.1<n/\qR f most p.1 p.2=true/\2<=p.2/\p.2<=32
 | 0,h=>by simp[rows] at h
 | n+1,h=>by
  rw[QV,aaD] at h
  rcases h with h|h
  ·obtain⟨b,a⟩:=QW h;exact⟨an,a⟩
  ·obtain⟨b,a,c,d⟩:=zzE h;exact⟨an,by rw[b];exact a,an,c⟩
def zuq:∀{f:List af},(∀ i x,f[i]?=some x->fg x (f.length-1-i)=true)->jP f=true
 | [],_=>rfl
 | x::f,h=>by
  rw[jP,aad];refine⟨by have:=h 0 x rfl;simpa using this,zuq fun i y a=>?_⟩;have:=h (i+1) y (by simpa using a);rw[<-this];congr 1;simp only[aau];omega
def zzF{x:af}(a e b i:Nat)(h:jX x=true)(k:nH x=true):jX (dW a e b i x)=true/\nH (dW a e b i x)=true:=by
 have l:=zS h
 have j:∀ d:Nat,dV a e b i d<=d:=fun d=>by unfold dV;split<;>omega
 unfold dW
 by_cases f:x.op=5
 ·rw[if_pos f];refine⟨?_,?_⟩
  ·have m:rN 5=some (5,[106,97],true,false):=by decide
   unfold jX at h |-;simp only[f,m,Bool.true_or,aaS] at h |-;exact h
  ·simp[nH,f]
 ·rw[if_neg f]
  by_cases c:bf x.op=true
  ·rw[if_pos c];obtain⟨v,w,y,z⟩:=l c;have:=j x.jt.toNat;have:=j x.jf.toNat;refine⟨?_,?_⟩
   ·unfold jX at h |-;simp only at h |-;split at h
    ·rename_i r n;simp only[aad] at h |-;refine⟨h.1,?_⟩
     have g:∀ r∈v9,bf r.1=r.2.2.2:=by decide
     obtain⟨q1,o⟩:=MA n;have:=g r o;rw[q1,c] at this;rw[<-this];simp only[if_true,decide_eq_true_eq];omega
    ·cases h
   ·have q:∀ p∈[21,37,53,69,29,45,61,(77:Int)],p≠32/\p≠52/\¬(p=2\/p=3\/p=96\/p=97)/\¬(p=100\/p=116):=by decide
    obtain⟨n1,s,t,u⟩:=q _ (by simpa[bf] using c);simp only[nH,n1,s,t,u,if_false]
  ·rw[if_neg c];exact⟨h,k⟩
def JY(a e b i:Nat)(x:af):(dW a e b i x).op=x.op:=by
 unfold dW;split
 ·rfl
 ·split<;>rfl
def zzG{x:af}(h:mK x=true)(left:Nat):fg x left=true:=by simp only[mK,aad] at h;rw[zts h.1.1,h.1.2,h.2];rfl
def Hg{w:List af}(h:aW w=true):∀ x∈w,mK x=true:=by simp only[aW,aad,aaY] at h;exact h.2
def zsI{f:List af}{a n:Nat}(e:dB f=true)(b:r7 f a n=true)(k:0<n)(l:a+n<=f.length):a+n<f.length:=by
 by_cases h:a+n<f.length
 ·exact h
 ·exfalso;have c:f[a+n-1]?=some (f[a+n-1]' an):=aae an;obtain⟨_,g,_⟩:=Hi e c
  have j:f[a+n-1]' an∈(f.drop a).take n:=by refine aaq (i:=n-1) ?_;rw[ach,if_pos an,aaQ,show a+(n-1)=a+n-1 by omega];exact c
  simp only[r7,aad] at b;have d:=Hg b.1 _ j;simp only[mK,aad] at d;have:=g (Vw d.1.1).2.2;omega
def zzH{f:List af}{a n:Nat}(b:r7 f a n=true){i:Nat}{x:af}(c:f[i]?=some x){t:Nat}(d:a<t)(e:t<a+n):zP x i t=false:=by simp only[r7,aad,Ar,aaY,aaA,Bool.not_eq_true'] at b;have:=b.2 (t-a-1) an;rw[show a+1+(t-a-1)=t by omega,qL,<-abS,abi] at this;rw[<-abS];intro h;refine this ⟨i,aaA.2 (aaa.1 c).1,?_⟩;rw[aaV,c];exact h
def QY{f w:List af}{a n:Nat}(b:a+n<=f.length):(eU f a n w).length=f.length-n+w.length:=by simp only[eU,aan,Fi,aa4];omega
def zsJ{f w:List af}{a n:Nat}(e:dB f=true)(s:r7 f a n=true)(C:0<n)(t:a+n<=f.length)(D:aW w=true)(P:w.length<=n):dB (eU f a n w)=true:=by
 have Q:=zsI e s C t;have u:=QY (w:=w) t;have R:=JU e
 have m:jP (eU f a n w)=true:=by
  refine zuq fun i x b=>?_;rw[u]
  by_cases v:i<a
  ·rw[eU,aat,aal (by rw[Fi];exact v)] at b;have j:f[i]?=some (f[i]' an):=aae an;obtain⟨y,E⟩:∃ y,y=f[i]'(by omega):=⟨_,rfl⟩;rw[<-E] at j
   have F:x=dW a (a+n) (n-w.length) i y:=by rw[pre,abc,aca v] at b;simp only[abZ,abb.injEq] at b;rw[<-b,aaV,j];rfl
   subst F;have l:=(Hi e j).1;simp only[fg,aad] at l;obtain⟨⟨⟨A,G⟩,H⟩,I⟩:=l;obtain⟨J,K⟩:=zzF a (a+n) (n-w.length) i A G;have L:=zS A;rw[fg,JY,J,K]
   have o:∀ d:Nat,zP y i (i+1+d)=true->i+1+d<f.length->dV a (a+n) (n-w.length) i d<f.length-n+w.length-1-i:=by
    intro d B hd
    have M:¬(a<i+1+d/\i+1+d<a+n):=fun⟨m,p⟩=>by rw[zzH s j m p] at B;cases B
    unfold dV
    split<;>omega
   by_cases c:y.op=5
   ·have g:bf y.op=false:=by rw[c];decide
    rw[if_pos c,decide_eq_true_eq] at H;have:=o y.k (by simp[zP,c]) an;simp only[c,if_true,aaS,aax,if_false,Bool.and_true,decide_eq_true_eq,show bf 5=false by decide];simp only[dW,c,if_true];exact this
   ·cases g:bf y.op
    ·simp[c]
    ·obtain⟨S,T,U,V⟩:=L g;rw[if_pos g,decide_eq_true_eq] at I;have W:=o y.jt.toNat (by simp[zP,c,g]) an;have X:=o y.jf.toNat (by simp[zP,c,g]) an;simp only[c,if_false,if_true,aaS,decide_eq_true_eq];simp only[dW,c,g,if_false,if_true];omega
  ·rw[eU,aat,aa7 (by rw[Fi];omega),Fi] at b
   by_cases q:i-a<w.length
   ·rw[aal q] at b;exact zzG (Hg D x (aaq b)) _
   ·rw[aa7 an,aaQ] at b;have l:=(Hi e b).1;rw[<-l];congr 1;have:=(aaa.1 b).1;omega
 have p:kA (eU f a n w)=true:=by
  have r:kA f=true:=by simp only[dB,aad] at e;exact e.2
  have Y:f.drop (a+n)≠[]:=by intro h;have:=congrArg List.length h;rw[aa4] at this;simp at this;omega
  have:(eU f a n w).getLast?=f.getLast?:=by
   rw[eU,List.getLast?_append,List.getLast?_drop,if_neg an]
   cases N:f.getLast? with
   | none=>simp only[kA,N] at r;cases r
   | some z=>rfl
  simp only[kA,this];exact r
 have O:(eU f a n w).length<=4096:=by rw[u];omega
 simp[dB,m,p,O]
def zEb{f w:List af}{a n:Nat}(c:∀ x∈f,x.k<4294967296)(g:∀ x∈w,x.k<4294967296):∀ x∈eU f a n w,x.k<4294967296:=by
 intro x b;simp only[eU,aaD] at b
 rcases b with(b|b)|b
 ·simp only[pre,aa0,aaA] at b;obtain⟨i,hi,rfl⟩:=b
  have e:(f.getD i u5).k<4294967296:=by
   rw[aaV]
   cases h:f[i]? with
   | none=>decide
   | some z=>exact c z (aaq h)
  generalize f.getD i u5=y at e
  have j:∀ d:Nat,dV a (a+n) (n-w.length) i d<=d:=fun d=>by unfold dV;split<;>omega
  unfold dW;split
  ·have:=j y.k;simp only;omega
  ·split<;>exact e
 ·exact g x b
 ·exact c x (aaL b)
def MB{x:af}(h:mK x=true):x.op≠5/\bf x.op=false/\x.op≠6/\x.op≠22:=by simp only[mK,aad] at h;obtain⟨b,c,a⟩:=Vw h.1.1;simp only[gL,decide_eq_false_iff_not,not_or] at a;exact⟨b,c,a.1,a.2⟩
def zyg{x:af}(h:mK x=true)(s:St):goes s x=0:=by obtain⟨a,b,_⟩:=MB h;simp[goes,a,b]
def Vy(d:Da)(g:List af):∀(w:List af) (s:St),(∀ x∈w,mK x=true) ->
  run d (w++g) s=if(b_ d w s).2<w.length then(0,(b_ d w s).2+1) else((run d g (b_ d w s).1).1,w.length+(run d g (b_ d w s).1).2)
 | [],s,_=>by simp[b_]
 | x::w,s,h=>by
  have b:=h x ir;obtain⟨k,l,e,f⟩:=MB b;have i:=Vy d g w (eM s x d).1 fun y j=>h y (by simp[j]);rw[acp,xY,if_neg e,if_neg f,zyg b,ab4]
  by_cases a:(eM s x d).2=true
  ·rw[if_pos a,i];simp only[b_,a,if_true,aau]
   by_cases c:(b_ d w (eM s x d).1).2<w.length
   ·rw[if_pos c,if_pos an]
   ·rw[if_neg c,if_neg an];simp only[Prod.mk.injEq,true_and];omega
  ·rw[if_neg a];simp only[b_,a,if_false,aau,aax];rw[if_pos an]
def zsK{d:Da}:∀(w:List af) (s:St),(∀ x∈w,mK x=true)->(b_ d w s).2<w.length->0<j4 w w.length
 | [],s,_,h=>by simp[b_] at h
 | x::w,s,a,h=>by
  rw[aau,JZ]
  by_cases b:(eM s x d).2=true
  ·have:=zsK (d:=d) w (eM s x d).1 (fun y c=>a y (by simp[c])) (by simp only[b_,b,if_true,aau] at h;omega);omega
  ·have:=(zvG (a x ir) (by simpa using b)).1;rw[if_pos this];omega
def zBZ(a e b i:Nat)(s:St)(x:af)(d:Da):eM s (dW a e b i x) d=eM s x d:=by
 by_cases c:x.op=5
 ·have f:bw (5:Int)=(0,false,false):=by decide
  have g:(dW a e b i x).op=5:=by rw[JY,c]
  have o:∀ y:af,y.op=5->eM s y d=(s,true):=fun y h=>by
   simp only[eM,h,f,aax,if_false,kC];simp
  rw[o _ g,o _ c]
 ·unfold dW;rw[if_neg c]
  split<;>rfl
def Ax(a e b i:Nat)(s:St){x:af}(h:gL x.op=false)(hi:i<a):goes s (dW a e b i x)=dV a e b i (goes s x)\/goes s x=0/\goes s (dW a e b i x)=0:=by
 have d:=JY a e b i x
 by_cases c:x.op=5
 ·left;simp only[goes,d,c,if_true];simp[dW,c]
 by_cases f:bf x.op=true
 ·left
  have g:dW a e b i x={ x with jt:=(dV a e b i x.jt.toNat:Nat),jf:=(dV a e b i x.jf.toNat:Nat) }:=by rw[dW,if_neg c,if_pos f]
  have j:cQ s (dW a e b i x)=cQ s x:=by rw[g];rfl
  simp only[goes,d,if_neg c,f,if_true,j];rw[g]
  cases cQ s x<;>simp
 ·right;simp[goes,d,c,f]
def zGo(g:List af):bh g [0]=nd g:=by
 funext p
 simp[bh]
def zpf{f w:List af}{a n t:Nat}(b:t<a){x:af}(c:f[t]?=some x):(eU f a n w).drop t=dW a (a+n) (n-w.length) t x::(eU f a n w).drop (t+1):=by
 have d:(eU f a n w)[t]?=some (dW a (a+n) (n-w.length) t x):=by rw[eU,aat,aal (by rw[Fi];exact b),pre,abc,aca b];simp[aaV,c]
 obtain⟨g,e⟩:=aaa.1 d;rw[aaJ g,e]
def Vz(f w:List af)(a n:Nat):(eU f a n w).drop a=w++f.drop (a+n):=by rw[eU,aat,abD (Fi _ _ _ _ _)]
def zpg{f w:List af}{a n t:Nat}(b:w.length<=n)(h:a+n<=t):(eU f a n w).drop (t-(n-w.length))=f.drop t:=by
 have e:t-(n-w.length)=a+(w.length+(t-(a+n))):=an
 rw[e,<-abe,Vz,<-abe,abD rfl,abe]
 congr 1
 omega
def zur{s:St}{d:Da}(a:s.ok){i:Nat}(hi:i<18):(eT s d).getD i 0=part s i:=by
 have b:=a.2.2.1
 match i,hi with
 | 0,_=>rfl
 | 1,_=>rfl
 | i+2,h =>
  simp only[eT,part];rw[aa6,aaH,aaH,aal an,<-aa6]
def zqy{f w:List af}{a n live:Nat}{d:Da}(K:dB f=true)(y:r7 f a n=true)(Y:0<n)(Z:a+n<=f.length)(L:aW w=true)(M:w.length<=n)
  (z:∀ x∈f,x.k<4294967296) (N:∀ x∈w,x.k<4294967296) (hd:d.ok) (O:∀ p<18,nd (f.drop (a+n)) p=true->yL live p=true)
  (P:∀ s:St,s.ok->uX ((f.drop a).take n) w live s d=false) :
  ∀(m t:Nat) (s:St),f.length-t<=m->t<f.length->(t<=a\/a+n<=t)->s.ok ->
   (run d ((eU f a n w).drop (if t<=a then t else t-(n-w.length))) s).1=(run d (f.drop t) s).1 /\
   ((run d ((eU f a n w).drop (if t<=a then t else t-(n-w.length))) s).2<=(run d (f.drop t) s).2\/0<j4 ((f.drop a).take n) n)
 | 0,t,s,h1,Q,_,_=>by omega
 | m+1,t,s,h1,Q,h3,A=>by
  have r:((f.drop a).take n).length=n:=by rw[aav,aa4];omega
  by_cases R:t<=a
  case neg =>
   have h4:a+n<=t:=an
   rw[if_neg R,zpg M h4];exact⟨rfl,.inl (aaF _)⟩
  rw[if_pos R]
  by_cases r9:t=a
  ·subst r9
   have S:∀ x∈(f.drop t).take n,mK x=true:=by simp only[r7,aad] at y;exact Hg y.1
   have E:f.drop t=(f.drop t).take n++f.drop (t+n):=by rw[<-abe,ab5]
   have c:=P s A;have n1:=E7 d ((f.drop t).take n) s;have n2:=E7 d w s;have T:=Vy d (f.drop (t+n)) ((f.drop t).take n) s S;rw[<-E,r] at T;rw[r] at n1;rw[Vz,T,Vy d _ w s (Hg L)];unfold uX at c;rw[r] at c
   by_cases g:(b_ d ((f.drop t).take n) s).2<n
   ·have i:(b_ d w s).2<w.length:=by rw[if_pos (.inl g)] at c;simpa[g] using c
    rw[if_pos g,if_pos i];refine⟨rfl,.inr ?_⟩;have:=zsK ((f.drop t).take n) s S (by rw[r];exact g);rwa[r] at this
   ·have i:¬(b_ d w s).2<w.length:=fun i=>by
     rw[if_pos (.inr i)] at c;simp[g,i] at c
    rw[if_neg (by simp[g,i])] at c;rw[if_neg g,if_neg i];have U:=E6 hd _ s A (Mu z t n);have V:=E6 hd _ s A N
    have ag:=ztc d hd _ (f.drop (t+n)) (b_ d w s).1 (b_ d ((f.drop t).take n) s).1 (aaF _) V U (fun x j=>z x (aaL j)) fun p B l8=>by
     have C:=O p B l8
     rcases Bool.eq_false_or_eq_true (xM live (eT (b_ d ((f.drop t).take n) s).1 d) (eT (b_ d w s).1 d) p) with h|h
     ·rw[zqu B h] at c;cases c
     ·rw[xM,C,aaS,bne_eq_false_iff_eq,zur U B,zur V B] at h;exact h.symm
    rw[ag];exact⟨rfl,.inl (by simp only;omega)⟩
  ·have F:t<a:=an
   obtain⟨x,j⟩:∃ x,f[t]?=some x:=⟨_,aae Q⟩
   have E:f.drop t=x::f.drop (t+1):=by obtain⟨hl,e⟩:=aaa.1 j;rw[aaJ hl,e]
   rw[zpf F j,E,xY,xY,JY,zBZ]
   by_cases l:x.op=6
   ·have:(dW a (a+n) (n-w.length) t x).k=x.k:=by
     have:bf (6:Int)=false:=by decide
     simp[dW,l,this]
    rw[if_pos l,if_pos l,this];exact⟨rfl,.inl (aaF _)⟩
   rw[if_neg l,if_neg l]
   by_cases u:x.op=22
   ·rw[if_pos u,if_pos u];exact⟨rfl,.inl (aaF _)⟩
   rw[if_neg u,if_neg u]
   by_cases D:(eM s x d).2=true
   case neg =>
    rw[if_neg D,if_neg D];exact⟨rfl,.inl (aaF _)⟩
   rw[if_pos D,if_pos D]
   have G:gL x.op=false:=by simp[gL,l,u]
   have b:=QZ G s;have W:=E8 K j b;obtain⟨q,H⟩:∃ q,q=goes s x:=⟨_,rfl⟩;rw[<-H] at b W |-
   have I:t+1+q<=a\/a+n<=t+1+q:=by
    by_cases v:t+1+q<=a
    ·exact .inl v
    ·by_cases tJ:a+n<=t+1+q
     ·exact .inr tJ
     ·exfalso;have o:=zzH y j (t:=t+1+q) an an;unfold aU at b;rw[G] at b;simp only[aax,if_false] at b;unfold zP at o
      by_cases J:x.op=5
      ·rw[if_pos J,aaI] at b;rw[if_pos J,b] at o;simp at o
      ·rw[if_neg J] at b o
       cases C:bf x.op with
       | true =>
        rw[C] at b o;simp only[if_true,aaG,aaK,or_false] at b;simp only[aaS,aa9,decide_eq_false_iff_not] at o
        omega
       | false =>
        rw[C] at b;simp only[aax,if_false,aaI] at b;omega
   have X:=zqy K y Y Z L M z N hd O P m (t+1+q) (eM s x d).1 an W I (Hk A (z x (aaq j)) hd)
   have fH:t+1+goes s (dW a (a+n) (n-w.length) t x)=if t+1+q<=a then t+1+q else t+1+q-(n-w.length):=by
    rcases Ax a (a+n) (n-w.length) t s G F with h|⟨h,h'⟩
    ·rw[h,<-H,dV]
     rcases I with v|v
     ·rw[if_pos v,if_neg an]
     ·rw[if_pos ⟨F,v⟩,if_neg an];omega
    ·rw[h'];rw[<-H] at h;rw[h] at I |-;rw[if_pos an]
   rw[abe,abe,fH];refine⟨X.1,?_⟩
   rcases X.2 with h|h
   ·left;simp only;omega
   ·exact .inr h
def bP(m:List Bool)(n:Nat):Nat:=(m.take n).countP id
def kK(m:List Bool)(x:af):af:=if x.op=5 then{ x with k:=bP m x.k } else if bf x.op then{ x with jt:=(bP m x.jt.toNat:Nat),jf:=(bP m x.jf.toNat:Nat) } else x
def dJ:List af->List Bool->List af
 | x::f,true::m=>kK m x::dJ f m
 | _::f,false::m=>dJ f m
 | _,_=>[]
def lH:List af->List Bool->Prop
 | x::f,b::m=>(b=true->∀ o∈aU x,m[o]?=some true)/\lH f m
 | [],[]=>True
 | _,_=>False
def Fk:∀{f:List af} {m:List Bool},lH f m->f.length=m.length
 | [],[],_=>rfl
 | [],_::_,h=>by cases h
 | _::_,[],h=>by cases h
 | x::f,b::m,h=>by simp[Fk h.2]
def zsL:∀{f:List af} {m:List Bool} (o:Nat),lH f m->lH (f.drop o) (m.drop o)
 | _,_,0,h=>by simpa using h
 | [],[],o+1,h=>by simp[lH]
 | [],_::_,_+1,h=>by cases h
 | _::_,[],_+1,h=>by cases h
 | x::f,b::m,o+1,h=>by simpa using zsL o h.2
def VA(b:Bool)(m:List Bool)(n:Nat):bP (b::m) (n+1)=(if b then 1 else 0)+bP m n:=by cases b<;>simp[bP,acd]
def Hl(m:List Bool):bP m 0=0:=by simp[bP]
def Q0:∀(f:List af) (m:List Bool) (o:Nat),f.length=m.length->(dJ f m).drop (bP m o)=dJ (f.drop o) (m.drop o)
 | f,m,0,h=>by simp[Hl]
 | [],m,o+1,h=>by
  have:m=[]:=abF (by simpa using h.symm);subst this
  simp[dJ]
 | x::f,[],o+1,h=>by simp at h
 | x::f,b::m,o+1,h=>by
  have a:=Q0 f m o (by simpa using h);rw[VA]
  cases b with
  | true =>
   rw[if_pos rfl,dJ,acd,abl,a];rfl
  | false =>
   simp only[aax,if_false,aa5,dJ];rw[a];rfl
def Hm(m:List Bool)(x:af):(kK m x).op=x.op:=by
 unfold kK;split
 ·rfl
 ·split<;>rfl
def zB0(m:List Bool)(s:St)(x:af)(d:Da):eM s (kK m x) d=eM s x d:=by
 by_cases a:x.op=5
 ·have b:bw (5:Int)=(0,false,false):=by decide
  have c:(kK m x).op=5:=by rw[Hm,a]
  have o:∀ y:af,y.op=5->eM s y d=(s,true):=fun y e=>by
   simp only[eM,e,b,aax,if_false,kC];simp
  rw[o _ c,o _ a]
 ·unfold kK;rw[if_neg a]
  split<;>rfl
def zB1(m:List Bool)(s:St)(x:af):goes s (kK m x)=bP m (goes s x):=by
 have b:=Hm m x
 by_cases a:x.op=5
 ·simp only[goes,b,a,if_true];simp[kK,a]
 by_cases c:bf x.op=true
 ·have d:kK m x={ x with jt:=(bP m x.jt.toNat:Nat),jf:=(bP m x.jf.toNat:Nat) }:=by rw[kK,if_neg a,if_pos c]
  have e:cQ s (kK m x)=cQ s x:=by rw[d];rfl
  simp only[goes,b,if_neg a,c,if_true,e];rw[d]
  cases cQ s x<;>simp
 ·simp[goes,b,a,c,Hl]
def zwX(d:Da):∀(n:Nat) (f:List af) (m:List Bool) (s:St),f.length<=n->lH f m->m[0]?=some true->run d (dJ f m) s=run d f s
 | _,[],[],_,_,_,h=>by cases h
 | _,[],_::_,_,_,h,_=>by cases h
 | _,_::_,[],_,_,h,_=>by cases h
 | 0,_::_,_,_,h,_,_=>by simp at h
 | n+1,x::f,b::m,s,j,g,i=>by
  simp only[aaU,abb.injEq] at i;subst i;rw[dJ,xY,xY,Hm,zB0,zB1]
  by_cases a:x.op=6
  ·have l:(kK m x).k=x.k:=by
    have:bf (6:Int)=false:=by decide
    simp[kK,a,this]
   rw[if_pos a,if_pos a,l]
  rw[if_neg a,if_neg a]
  by_cases c:x.op=22
  ·rw[if_pos c,if_pos c]
  rw[if_neg c,if_neg c]
  by_cases e:(eM s x d).2=true
  case neg=>rw[if_neg e,if_neg e]
  rw[if_pos e,if_pos e]
  have o:gL x.op=false:=by simp[gL,a,c]
  have p:=g.1 rfl _ (QZ o s);have q:=zwX d n (f.drop (goes s x)) (m.drop (goes s x)) (eM s x d).1 (by simp at j |-;omega) (zsL _ g.2) (by rw[aaQ,abt];exact p);rw[Q0 f m _ (Fk g.2),q]
def Hn:∀(f:List af) (m:List Bool),f.length=m.length->(dJ f m).length=m.countP id
 | [],[],_=>rfl
 | [],_::_,h=>by simp at h
 | _::_,[],h=>by simp at h
 | x::f,true::m,h=>by simp[dJ,Hn f m (by simpa using h)]
 | x::f,false::m,h=>by simp[dJ,Hn f m (by simpa using h)]
def VB{m:List Bool}{o:Nat}(h:m[o]?=some true):bP m o<m.countP id:=by
 have a:=(aaa.1 h).1
 have e:m=m.take o++true::m.drop (o+1):=by have:=aaJ a;rw[(aaa.1 h).2] at this;rw[<-this,ab5]
 rw[bP]
 conv=>rhs;rw[e,aci,List.countP_cons]
 simp
def J0(m:List Bool)(o:Nat):bP m o<=o:=by have:=ab6 (p:=id) (l:=m.take o);rw[bP];have a:=List.length_take_le o m;omega
def zzI{x:af}(m:List Bool)(h:jX x=true)(j:nH x=true):jX (kK m x)=true/\nH (kK m x)=true:=by
 have p:=zS h;have l:∀ n,bP m n<=n:=J0 m;obtain⟨a,d,f,k⟩:=x
 by_cases g:a=5
 ·subst g
  have b:bf 5=false:=by decide
  simp only[kK,if_true];constructor
  ·simp only[jX] at h |-
   have c:rN 5=some (5,[106,97],true,false):=by decide
   simp only[c] at h |-;simpa using h
  ·simp[nH]
 ·cases b:bf a
  ·simp[kK,g,b,h,j]
  ·obtain⟨q,s,t,u⟩:=p b;simp only at q s t u
   have e:kK m ⟨a,d,f,k⟩=⟨a,(bP m d.toNat:Nat),(bP m f.toNat:Nat),k⟩:=by simp[kK,g,b]
   rw[e];constructor
   ·simp only[jX] at h |-
    cases c:rN a with
    | none=>rw[c] at h;cases h
    | some r =>
     rw[c] at h;simp only[aad] at h |-;refine⟨h.1,?_⟩;have o:=h.2;have v:=l d.toNat;have w:=l f.toNat;split at o
     ·rename_i i;rw[if_pos i,decide_eq_true_eq];omega
     ·rename_i i;rw[decide_eq_true_eq] at o;rw[if_neg i,decide_eq_true_eq];omega
   ·simpa[nH] using j
def VC:∀{f:List af} {m:List Bool},lH f m->jP f=true->jP (dJ f m)=true
 | [],[],_,_=>rfl
 | [],_::_,h,_=>by cases h
 | _::_,[],h,_=>by cases h
 | x::f,false::m,h,c=>by
  rw[jP,aad] at c;rw[dJ]
  exact VC h.2 c.2
 | x::f,true::m,h,c=>by
  rw[jP,aad] at c;rw[dJ,jP,aad];refine⟨?_,VC h.2 c.2⟩;have g:=c.1;simp only[fg,aad] at g;obtain⟨⟨⟨j,l⟩,p⟩,q⟩:=g;obtain⟨p1,p2⟩:=zzI m j l;have d:=h.1 rfl;rw[fg,p1,p2,Hn f m (Fk h.2),Hm];simp only[aaS,aad];constructor
  ·by_cases a:x.op=5
   ·have:=d x.k (by have:gL (5:Int)=false:=(by decide);simp[aU,a,this]);rw[if_pos a,decide_eq_true_eq];simp only[kK,if_pos a];exact VB this
   ·rw[if_neg a]
  ·by_cases b:bf x.op=true
   ·have a:x.op≠5:=fun e=>by rw[e] at b;revert b;decide
    have i:gL x.op=false:=by rcases Ay b with e|e|e|e|e|e|e|e<;>rw[e]<;>decide
    have n:=d x.jt.toNat (by simp[aU,i,a,b]);have o:=d x.jf.toNat (by simp[aU,i,a,b]);have r:=VB n;have s:=VB o;rw[if_pos b,decide_eq_true_eq];simp only[kK,if_neg a,if_pos b];omega
   ·rw[if_neg b]
def zus:∀{f:List af} {m:List Bool},f.length=m.length->m.any id=false->dJ f m=[]
 | [],[],_,_=>rfl
 | [],_::_,h,_=>by simp at h
 | _::_,[],h,_=>by simp at h
 | x::f,true::m,_,h=>by simp at h
 | x::f,false::m,h,a=>by
  rw[dJ];exact zus (by simpa using h) (by simpa using a)
def zut:∀{f:List af} {m:List Bool},f.length=m.length->m.any id=true->dJ f m≠[]
 | [],[],_,h=>by simp at h
 | [],_::_,h,_=>by simp at h
 | _::_,[],h,_=>by simp at h
 | x::f,true::m,_,_=>by simp[dJ]
 | x::f,false::m,h,a=>by
  rw[dJ];exact zut (by simpa using h) (by simpa using a)
def zzJ{x:af}{f:List af}(h:f≠[]):kA (x::f)=kA f:=by
 cases f with
 | nil=>exact absurd rfl h
 | cons y f=>simp[kA,List.getLast?_cons_cons]
def zEN{x:af}(h:gL x.op=false):aU x≠[]:=by
 unfold aU;rw[h];simp only[aax,if_false];split
 ·simp
 ·split<;>simp
def zwY:∀{f:List af} {m:List Bool},lH f m->m.any id=true->kA (dJ f m)=true
 | [],[],_,h=>by simp at h
 | [],_::_,h,_=>by cases h
 | _::_,[],h,_=>by cases h
 | x::f,b::m,h,c=>by
  have d:=Fk h.2
  cases a:m.any id with
  | true =>
   have e:=zwY h.2 a
   cases b with
   | true=>rw[dJ,zzJ (zut d a),e]
   | false=>rw[dJ,e]
  | false =>
   have i:b=true:=by rw[List.any_cons,a] at c;simpa using c
   subst i;rw[dJ,zus d a];simp only[kA,List.getLast?_singleton,Hm]
   cases j:gL x.op with
   | true=>rfl
   | false =>
    exfalso
    cases g:aU x with
    | nil=>exact zEN j g
    | cons o l =>
     have:=h.1 rfl o (by rw[g];simp);have k:=aaq this;have:m.any id=true:=abi.2 ⟨true,k,rfl⟩;rw[a] at this;cases this
def zzK{f:List af}{m:List Bool}(b:dB f=true)(a:lH f m)(c:m[0]?=some true):dB (dJ f m)=true:=by have d:=Fk a;have g:=Hn f m d;have h:=ab6 (p:=id) (l:=m);have e:m.any id=true:=abi.2 ⟨true,aaq c,rfl⟩;simp only[dB,aad,decide_eq_true_eq] at b |-;exact⟨⟨an,VC a b.1.2⟩,zwY a e⟩
def zwZ:∀{f:List af} {m:List Bool},f.length=m.length->(∀ b∈m,b=true)->jP f=true->dJ f m=f
 | [],[],_,_,_=>rfl
 | [],_::_,h,_,_=>by simp at h
 | _::_,[],h,_,_=>by simp at h
 | x::f,b::m,h,e,g=>by
  have a:b=true:=e b ir;subst a;rw[jP,aad] at g
  have o:f.length=m.length:=by simpa using h
  have i:∀ n,n<=m.length->bP m n=n:=fun n y=>by
   have:(m.take n).countP id=(m.take n).length:=List.countP_eq_length.2 fun b a=>e b (by simp[abk a]);rw[bP,this,aav];omega
  rw[dJ,zwZ o (fun b a=>e b (by simp[a])) g.2];have j:=g.1;simp only[fg,aad] at j;obtain⟨⟨⟨p,z⟩,q⟩,r⟩:=j;have s:=zS p
  congr 1
  obtain⟨l,A,B,k⟩:=x
  by_cases c:l=5
  ·simp only[c,if_true,decide_eq_true_eq] at q;simp only[kK,c,if_true];rw[i k an]
  ·cases d:bf l
   ·simp[kK,c,d]
   ·obtain⟨t,u,v,w⟩:=s d;simp only[d,if_true,decide_eq_true_eq] at r;simp only at t u v w;simp only[kK,c,d,if_true,if_false];rw[i _ an,i _ an];simp;omega
def kR(x:af):Bool:=((bw x.op).2.2&&!(bw x.op).2.1)||decide (x.op=0)||decide (x.op=1)
def kS(w:List af):List Nat:=(w.filter kR).map af.k
def zzL(w:List af)(x:af):kS (w++[x])=if kR x then kS w++[x.k] else kS w:=by
 unfold kS;rw[List.filter_append,acy]
 by_cases h:kR x=true<;>simp[h]
def Q1(w:List af):(kS w).length<=w.length:=by simp[kS,List.length_filter_le]
noncomputable def yS(w:List af):List Nat :=
 (du (aH [] w).L ((aH [] w).p.getD 0 0)).toList++((dj (aP 34) (aH [] w).L ((aH [] w).p.getD 0 0)).toList++(dj (4294967295::aP 33) (aH [] w).L ((aH [] w).p.getD 0 0)).toList)
def zEO[cu G](H:ae):bA G (.F 256 [] H (.ptr (H.length+1) 0) (H++[some (.map []),some (.cells [.vs [] .full,.mp H.length])])):=by refine ee cu.adp (aah rfl) ?_;simp
def BH(a:Option aw)(L:List Nd):ae:=[a,some (.map (ents L)),some (yT L 3 1),some (.zone L.length)]
def zEc{a:Option aw}{L:List Nd}(b:∀ n,a.map (aw.cl n)=a)(c:∀ x∈L,x.ok)(d:L.length<=1000000):Bk (BH a L) 2 3 1 L:=by refine⟨rfl,rfl,rfl,fun n e=>?_,c,d⟩;simp only[BH,aau,abC] at e;simp[BH,yT,aw.cl,b,aX,V.cl,Tk.cl,ents,VD,show 3<n by omega,show 1<n by omega]
def zyh[dR G][dx G][az G][ay G][aN G][ar G][hB:ja G][cu G][aK G][cZ G][cd G][fT G](w:List af)(hf:w.length<=maxLen)(hk:∀ x∈w,x.k<4294967296)(I:aW w=true) :
  FP G 326 [FL w] (.vs (ak .u32 (kS w++yS w)) .no):=by
 haveI:bG G:=hB.tobG
 refine bD fT.adx (aah rfl) ?_;obtain⟨L,U⟩:∃ L,L=(aH [] w).L:=⟨_,rfl⟩;have W:=An Inv.nil w hk
 have hi:Inv L:=by rw[U];exact W.ext.inv
 have pY:w.length<=32:=by simp only[aW,aad,decide_eq_true_eq] at I;exact I.1
 have VE:L.length<=114:=by rw[U];have:=W.ext.len;simp at this;omega
 obtain⟨X,J⟩:∃ X,X=wJ [] w:=⟨_,rfl⟩
 have K:X.length=19:=by rw[J];exact Ve Inv.nil hk
 have l:∀ n,aX n X=X:=fun n=>by rw[J];exact Vf w n
 have nX:X.map V.jq=X:=by rw[J,wJ,if_pos I,vcs];simp[mW,aaw,V.jq]
 obtain⟨p0,Q2⟩:∃ p0,p0=(aH [] w).p.getD 0 0:=⟨_,rfl⟩
 have M:X.take 1=[.int .i64 p0]:=by rw[J,wJ,if_pos I,zvw W.len,Q2,aaV,aae (show 0<(aH [] w).p.length by rw[W.len];decide)];rfl
 have Cq:∀ k,Bk (BH (some (.zone k)) []) 2 3 1 []:=fun k=>zEc (fun n=>rfl) ir ir;have o:∀ k,Bk (BH (some (.zone k)) L) 2 3 1 L:=fun k=>zEc (fun n=>rfl) hi.ok an
 have VF:∀ k,Bk (BH (some (.zone k)) L++[some (.cells X)]) 2 3 1 L:=fun k=>(o k).app fun n=>by simp[aw.cl,l]
 have mE:=fun k=>Vd (G:=G) w ((Cq k).app (r:=[none]) fun n=>by simp) Inv.nil (by decide) hf hk
 have e1:∀ k,dC (BH (some (.zone k)) []) 2 3 1 (yR [] w)=BH (some (.zone k)) L:=fun k=>by rw[U,yR,if_pos I];rfl
 have mE:∀ k,SF G 296 [.ptr 2 0,.vs (IL w) .no] (BH (some (.zone k)) []++[none]) (.a_ [.agg X,.bool true]) (BH (some (.zone k)) L++[none]):=fun k=>by
  have:=mE k;rw[(Cq k).cf,<-J,e1,I] at this;exact this
 have Y:=fun k=>zod (G:=G) p0 (VF k);have xZ:=fun(k:Nat) (r:ae) (hr:∀ n,r.map (aaB (aw.cl n))=r)=>zAS (G:=G) p0 (aP 34) ((o k).app hr) hi ir (wF 34);have uE:=fun(k:Nat) (r:ae) (hr:∀ n,r.map (aaB (aw.cl n))=r)=>zAS (G:=G) p0 (4294967295::aP 33) ((o k).app hr) hi ir (fun c Y=>by rcases aaG.1 Y with rfl|h;decide;exact wF 33 c h)
 have D:yS w=(du L p0).toList++((dj (aP 34) L p0).toList++(dj (4294967295::aP 33) L p0).toList):=by rw[U,Q2];rfl
 rw[D];generalize du L p0=m at Y |-;generalize dj (aP 34) L p0=o2 at xZ |-;generalize dj (4294967295::aP 33) L p0=o3 at uE |-;obtain⟨T,D⟩:∃ T:Nat->List Nat,∀ j,T j=kS (w.take j):=⟨_,fun _=>rfl⟩
 have T0:T 0=[]:=by rw[D];rfl
 have TN:T w.length=kS w:=by rw[D,aaX]
 have Tl:∀ i,(T i).length<=i:=fun i=>by rw[D];exact acB (Q1 _) (by rw[aav];omega)
 simp[FL];refine aQ w.length (fun i=>[(0,FL w),(3,.vs (ak .u32 (T i)) (.own 0)),(18,FL w),(19,.int .i64 w.length),(20,.int .i64 i)]) (fun i=>[some (.zone (T i).length)]) (fun _=>True) ?_ ?_
 ·simp[av,aj,FL,T0]
 intro i qq _
 by_cases q:i<w.length
 ·obtain⟨x,hx⟩:∃ x,x=w[i]:=⟨_,rfl⟩
  have hg:w[i]?=some x:=by rw[aae q,hx]
  have eN:=tF q;rw[<-hx] at eN;have ez:=J1 (G:=G) x;have dO:x.cs=[.int .i64 x.op,.int .i64 x.jt,.int .i64 x.jf,.int .u32 (x.k:Int)]:=rfl;have hl:=Tl i
  have d:T (i+1)=if kR x then T i++[x.k] else T i:=by rw[D,D,aaM,hg];exact zzL _ _
  simp only[IV,dO] at ez;have e:ak .u32 (T i)++[[V.int .u32 (x.k:Int)]]=ak .u32 (T i++[x.k]):=J2 .u32 (T i) x.k;simp(disch:=omega)[bM,FL,eN,dO];refine ax ez ?_
  cases ha:(bw x.op).2.2 with
  | true =>
   cases C:(bw x.op).2.1 with
   | false =>
    have g:kR x=true:=by simp[kR,ha,C]
    rw[if_pos g] at d
    have s:(T (i+1)).length=(T i).length+1:=by rw[d];simp
    rw[<-d] at e
    simp(disch:=omega)[aC,q,e,s,bH,av,aj,-aab]
   | true =>
    by_cases t:x.op=0
    ·have g:kR x=true:=by simp[kR,t]
     rw[if_pos g] at d
     have s:(T (i+1)).length=(T i).length+1:=by rw[d];simp
     rw[<-d] at e;simp(disch:=omega)[aC,q,t,e,s,bH,av,aj,-aab]
    by_cases m:x.op=1
    ·have g:kR x=true:=by simp[kR,m]
     rw[if_pos g] at d
     have s:(T (i+1)).length=(T i).length+1:=by rw[d];simp
     rw[<-d] at e;simp(disch:=omega)[aC,q,m,e,s,bH,av,aj,-aab]
    have g:kR x=false:=by simp[kR,C,t,m]
    rw[g] at d;simp only[aax,if_false] at d
    simp(disch:=omega)[aC,q,aO t,aO m,d,bH,av,aj,-aab]
  | false =>
    by_cases t:x.op=0
    ·have g:kR x=true:=by simp[kR,t]
     rw[if_pos g] at d
     have s:(T (i+1)).length=(T i).length+1:=by rw[d];simp
     rw[<-d] at e;simp(disch:=omega)[aC,q,t,e,s,bH,av,aj,-aab]
    by_cases m:x.op=1
    ·have g:kR x=true:=by simp[kR,m]
     rw[if_pos g] at d
     have s:(T (i+1)).length=(T i).length+1:=by rw[d];simp
     rw[<-d] at e;simp(disch:=omega)[aC,q,m,e,s,bH,av,aj,-aab]
    have g:kR x=false:=by simp[kR,ha,t,m]
    rw[g] at d;simp only[aax,if_false] at d;simp(disch:=omega)[aC,q,aO t,aO m,d,bH,av,aj,-aab]
 ·have aB:i=w.length:=an
  subst aB;have Fl:=Q1 w;obtain⟨O,hO⟩:∃ O,O=kS w:=⟨_,rfl⟩;simp only[TN,<-hO];rw[<-hO] at Fl;simp[FL];refine vb (zEO _) ir ?_;simp;rw[show([some (.zone O.length),some (.map []),some (.cells [.vs [] (.own 3),.mp 1]),some (.zone 0),none]:ae)=BH (some (.zone O.length)) []++[none] from rfl];refine cL (mE _) ?_;have b:∀ k,(BH (some (.zone k)) L).length=4:=fun k=>rfl;have kk:∀(k:Nat) (r:ae),(BH (some (.zone k)) L++r)[4]?=r[0]?:=fun k r=>nY (b k)
  have k0:∀(k:Nat) (r:ae) x,(BH (some (.zone k)) L++r).set 4 x=BH (some (.zone k)) L++r.set 0 x:=fun k r x=>sK (b k) x;have N:∀(k:Nat) (r:ae),(BH (some (.zone k)) L++r)[0]?=some (some (.zone k)):=fun k r=>rfl;have P:∀(k n:Nat) (r:ae),(BH (some (.zone k)) L++r).set 0 (some (.zone n))=BH (some (.zone n)) L++r:=fun k n r=>rfl;obtain⟨Z,hZ⟩:∃ Z:List V,Z=vcs (abI 18 0) [] .full:=⟨_,rfl⟩
  have lZ:Z.length=19:=by rw[hZ];rfl
  have He:[V.int .i64 0,.int .i64 0,.int .i64 0,.int .i64 0,.int .i64 0,.int .i64 0,.int .i64 0,.int .i64 0,.int .i64 0,.int .i64 0,.int .i64 0,.int .i64 0,.int .i64 0,.int .i64 0,.int .i64 0,.int .i64 0,.int .i64 0,.int .i64 0,.vs [] .full]=Z:=by rw[hZ];rfl
  have tX:X.take 19=X:=aam an;have dZ:Z.drop 19=[]:=aap an;simp[He,lZ,kk,k0,K,dZ];simp[M];refine cL (Y _) ?_
  rcases m with _|a
  ·obtain⟨f,u⟩:∃ f,f=O++[]:=⟨_,rfl⟩
   have he:f.length<=40:=by rw[u];simp;omega
   obtain⟨F,v⟩:∃ F:Nat->List Nat,∀ i,F i=f++(if i=0 then [] else if i=1 then o2.toList else o2.toList++o3.toList):=⟨_,fun _=>rfl⟩
   have E:F 0=f:=by rw[v];simp
   have z:F 1=f++o2.toList:=by rw[v];simp
   have H:F 2=F 1++o3.toList:=by rw[v,z];simp
   have lF:∀ i,(F i).length<=42:=fun i=>by
    rw[v];split
    ·simp;omega
    ·split
     ·cases o2<;>simp<;>omega
     ·cases o2<;>cases o3<;>simp<;>omega
   simp(disch:=omega)[b,aC]
   have hh:O=f:=by rw[u];simp
   refine aQ 2 (fun i=>[(3,.vs (ak .u32 (F i)) (.own 0)),(9,.ptr 2 0),(10,.ptr 4 0),(71,.agg [.int .u32 0,.int .u32 4294967295]),(72,.int .i64 i)]) (fun i=>BH (some (.zone (F i).length)) L++[some (.cells X)]) (fun _=>True) ?_ ?_
   ·have:=((o f.length).app (r:=[some (.cells X)]) fun n=>by simp[aw.cl,l]).shut.self;simp[b] at this;simp[av,b,E,this,hh]
   intro i VG _;have hj:=lF i
   have Q:aE .i64 0 1=1:=by decide
   have R:aE .i64 1 1=2:=by decide
   have S:∀ k:Nat,aj 5 (BH (some (.zone k)) L++[some (.cells X)])=BH (some (.zone k)) L++[some (.cells X)]:=fun k=>by
    have:=((o k).app (r:=[some (.cells X)]) fun n=>by simp[aw.cl,l]).shut.self;simpa[b] using this
   have C:∀(k:Nat),aj 5 (BH (some (.zone k)) L++[some (.cells X),none])=BH (some (.zone k)) L++[some (.cells X)]:=fun k=>by
    have:=((o k).app (r:=[some (.cells X)]) fun n=>by simp[aw.cl,l]).shut.back [none];simpa[b] using this
   by_cases h0:i=0
   ·subst h0;simp[b,K,M];refine cL (xZ _ _ fun n=>by simp[aw.cl,l]) ?_
    cases o2 with
    | none =>
     have A:F 1=F 0:=by rw[z,E];simp
     simp[b,av,S,Q,A]
    | some y =>
     have A:F 1=F 0++[y]:=by rw[z,E];simp
     have l1:(F 1).length=(F 0).length+1:=by rw[A];simp
     have e:ak .u32 (F 0)++[[V.int .u32 (y:Int)]]=ak .u32 (F 1):=by rw[A];exact J2 .u32 (F 0) y
     simp(disch:=omega)[b,N,P,aC,av,C,Q,e,l1]
   by_cases h1:i=1
   ·subst h1;simp[b,K,M];refine cL (uE _ _ fun n=>by simp[aw.cl,l]) ?_
    cases o3 with
    | none =>
     have B:F 2=F 1:=by rw[H];simp
     simp[b,av,S,R,B]
    | some y =>
     have B:F 2=F 1++[y]:=by rw[H];simp
     have l2:(F 2).length=(F 1).length+1:=by rw[B];simp
     have e:ak .u32 (F 1)++[[V.int .u32 (y:Int)]]=ak .u32 (F 2):=by rw[B];exact J2 .u32 (F 1) y
     simp(disch:=omega)[b,N,P,aC,av,C,R,e,l2]
   obtain rfl:i=2:=by omega
   have cK:F 2=O++((none:Option Nat).toList++(o2.toList++o3.toList)):=by rw[H,z,u];simp
   simp[cK]
  ·obtain⟨f,u⟩:∃ f,f=O++[a]:=⟨_,rfl⟩
   have he:f.length<=40:=by rw[u];simp;omega
   obtain⟨F,v⟩:∃ F:Nat->List Nat,∀ i,F i=f++(if i=0 then [] else if i=1 then o2.toList else o2.toList++o3.toList):=⟨_,fun _=>rfl⟩
   have E:F 0=f:=by rw[v];simp
   have z:F 1=f++o2.toList:=by rw[v];simp
   have H:F 2=F 1++o3.toList:=by rw[v,z];simp
   have lF:∀ i,(F i).length<=42:=fun i=>by
    rw[v];split
    ·simp;omega
    ·split
     ·cases o2<;>simp<;>omega
     ·cases o2<;>cases o3<;>simp<;>omega
   simp(disch:=omega)[b,N,P,aC]
   have hn:ak .u32 O++[[V.int .u32 (a:Int)]]=ak .u32 f:=by rw[u];exact J2 .u32 O a
   have hm:O.length+1=f.length:=by rw[u];simp
   refine aQ 2 (fun i=>[(3,.vs (ak .u32 (F i)) (.own 0)),(9,.ptr 2 0),(10,.ptr 4 0),(71,.agg [.int .u32 0,.int .u32 4294967295]),(72,.int .i64 i)]) (fun i=>BH (some (.zone (F i).length)) L++[some (.cells X),none]) (fun _=>True) ?_ ?_
   ·have:=((o f.length).app (r:=[some (.cells X),none]) fun n=>by simp[aw.cl,l]).shut.self;simp[b] at this;simp[av,b,E,this,u.symm,hm]
   intro i VG _;have hj:=lF i
   have Q:aE .i64 0 1=1:=by decide
   have R:aE .i64 1 1=2:=by decide
   have S:∀ k:Nat,aj 6 (BH (some (.zone k)) L++[some (.cells X),none])=BH (some (.zone k)) L++[some (.cells X),none]:=fun k=>by
    have:=((o k).app (r:=[some (.cells X),none]) fun n=>by simp[aw.cl,l]).shut.self;simpa[b] using this
   have C:∀(k:Nat),aj 6 (BH (some (.zone k)) L++[some (.cells X),none,none])=BH (some (.zone k)) L++[some (.cells X),none]:=fun k=>by
    have:=((o k).app (r:=[some (.cells X),none]) fun n=>by simp[aw.cl,l]).shut.back [none];simpa[b] using this
   by_cases h0:i=0
   ·subst h0;simp[b,K,M];refine cL (xZ _ _ fun n=>by simp[aw.cl,l]) ?_
    cases o2 with
    | none =>
     have A:F 1=F 0:=by rw[z,E];simp
     simp[b,av,S,Q,A]
    | some y =>
     have A:F 1=F 0++[y]:=by rw[z,E];simp
     have l1:(F 1).length=(F 0).length+1:=by rw[A];simp
     have e:ak .u32 (F 0)++[[V.int .u32 (y:Int)]]=ak .u32 (F 1):=by rw[A];exact J2 .u32 (F 0) y
     simp(disch:=omega)[b,N,P,aC,av,C,Q,e,l1]
   by_cases h1:i=1
   ·subst h1;simp[b,K,M];refine cL (uE _ _ fun n=>by simp[aw.cl,l]) ?_
    cases o3 with
    | none =>
     have B:F 2=F 1:=by rw[H];simp
     simp[b,av,S,R,B]
    | some y =>
     have B:F 2=F 1++[y]:=by rw[H];simp
     have l2:(F 2).length=(F 1).length+1:=by rw[B];simp
     have e:ak .u32 (F 1)++[[V.int .u32 (y:Int)]]=ak .u32 (F 2):=by rw[B];exact J2 .u32 (F 1) y
     simp(disch:=omega)[b,N,P,aC,av,C,R,e,l2]
   obtain rfl:i=2:=by omega
   have cK:F 2=O++((some a).toList++(o2.toList++o3.toList)):=by rw[H,z,u];simp
   simp[cK]
def qu(l:List af)(x:af):List af:=if x∈l then l else if aW [x]=true then l++[x] else l
def Q3(l:List af)(x:af):(qu l x).length<=l.length+1:=by unfold qu;split;omega;split<;>simp
def v_(l:List af):List (V×V):=l.map fun x=>(IV x,.bool true)
def zzM{x:af}:∀{l:List af} (i:Nat),x∈l->j6 (.row [.int,.int,.int,.int]) (.agg x.cs) (v_ l) i=some (some (i+l.idxOf x,.bool true))
 | [],i,h=>by cases h
 | y::l,i,h=>by
  simp only[v_,abz,j6,j7,IV,Dy]
  by_cases e:x=y
  ·subst e;simp
  ·have b:x∈l:=by simpa[e] using h
   have a:=zzM (i+1) b
   have c:(y::l).idxOf x=l.idxOf x+1:=by rw[List.idxOf_cons,beq_false_of_ne (Ne.symm e)];rfl
   simp only[v_,IV] at a;simp only[e,decide_false,a,c,show i+1+l.idxOf x=i+(l.idxOf x+1) from an]
def VI{x:af}:∀{l:List af} (i:Nat),x∉l->j6 (.row [.int,.int,.int,.int]) (.agg x.cs) (v_ l) i=some none
 | [],i,_=>rfl
 | y::l,i,h=>by
  simp only[aaG,not_or] at h;have a:=VI (i+1) h.2;simp only[v_,IV] at a;simp only[v_,abz,j6,j7,IV,Dy,h.1,decide_false,a]
def pF(a b:List af)(n:Nat):ae:=[some (.cells [.vs (IL a) (.own 3)]),some (.map (v_ b)),some (.cells [.mp 1]),some (.zone n)]
def BL(l:List af):ae:=pF l l l.length
def VJ(a b:List af)(n:Nat):im (pF a b n):=by
 intro m c;simp only[pF,aau,abC] at c
 have d:(v_ b).map (fun p=>(p.1.cl m,p.2.cl m))=v_ b:=by simp[v_,IV,af.cs,V.cl,aX,aaw]
 simp[pF,aw.cl,aX,V.cl,Tk.cl,show 3<m by omega,show 1<m by omega,d]
def Q4[az G][ay G][aN G][fE G](l:List af)(x:af)(r:ae)(D:∀ n,r.map (aaB (aw.cl n))=r)(O:l.length<=1000000)(E:x.k<4294967296) :
  SF G 327 [IV x,.ptr 2 0,.ptr 0 0] (BL l++r) (.a_ []) (BL (qu l x)++r):=by
 refine ke fE.ady (aah rfl) ?_;have h:∀ a b n,(pF a b n).length=4:=fun a b n=>rfl;have m:x.cs.length=4:=rfl;have o:x.cs.take 4=x.cs:=rfl
 have P:∀ n,aX n x.cs=x.cs:=fun n=>by simp[af.cs,aX,V.cl]
 have nx:x.cs.map V.jq=x.cs:=rfl;have F:∀ a b n (s:ae),(pF a b n++s)[0]?=some (some (.cells [.vs (IL a) (.own 3)])):=fun a b n s=>rfl;have v:∀ a b n (s:ae),(pF a b n++s)[1]?=some (some (.map (v_ b))):=fun a b n s=>rfl;have w:∀ a b n (s:ae),(pF a b n++s)[2]?=some (some (.cells [.mp 1])):=fun a b n s=>rfl;have H:∀ a b n (s:ae),(pF a b n++s)[3]?=some (some (.zone n)):=fun a b n s=>rfl;have Q:∀ a c b n (s:ae),(pF a b n++s).set 0 (some (.cells [.vs (IL c) (.own 3)]))=pF c b n++s:=fun a c b n s=>rfl
 have I:∀ a b d n (s:ae),(pF a b n++s).set 1 (some (.map (v_ d)))=pF a d n++s:=fun a b d n s=>rfl;have R:∀ a b n e (s:ae),(pF a b n++s).set 3 (some (.zone e))=pF a b e++s:=fun a b n e s=>rfl
 have kk:∀ a b n (s:ae),(pF a b n++(r++s))[4+r.length]?=s[0]?:=fun a b n s=>by
  rw[<-aat];exact nY (by simp[h])
 have J:∀ a b n (s:ae) y,(pF a b n++(r++s)).set (4+r.length) y=pF a b n++(r++s.set 0 y):=fun a b n s y=>by
  rw[<-aat,sK (by simp[h]),aat]
 have z:(∀ y∈x.cs,y.pure=true)=True:=eq_true (fun y i=>by simp only[af.cs,aaG,aaK,or_false] at i;rcases i with rfl|rfl|rfl|rfl<;>rfl);have p:=Dy x x;simp only[decide_true] at p;have A:=Af (G:=G) [x] (by simp[maxLen]) (fun y i=>by simp at i;rw[i];exact E);simp only[FL,IL,abz,abQ] at A
 have q:∀ a b n (s:ae),aj (4+r.length) (pF a b n++(r++s))=pF a b n++r:=fun a b n s=>by
  have:=((VJ a b n).app D).back s;rw[aat,aan,h] at this;exact this
 simp[BL,h,IV,m,o,v,w,J,j7,p]
 by_cases g:x∈l
 ·have j:qu l x=l:=if_pos g;simp[zzM 0 g,j,q]
 ·simp[VI 0 g,m,o,kk,z];refine ax A ?_
  cases B:aW [x] with
  | false =>
   have j:qu l x=l:=by rw[qu,if_neg g,B];rfl
   simp[j,q]
  | true =>
   have j:qu l x=l++[x]:=by rw[qu,if_neg g,B];rfl
   have K:v_ l++[(V.agg x.cs,V.bool true)]=v_ (l++[x]):=by simp[v_,IV]
   have S:IL l++[x.cs]=IL (l++[x]):=by simp[IL]
   have T:x.cs.all V.pure=true:=rfl
   have L:∀ f∈IL l,f.length=4:=fun f C=>by simp only[IL,aa0] at C;obtain⟨y,_,rfl⟩:=C;rfl
   have M:(l.length+1)*32<=140737488355328:=an
   have t:∀ a c b n,(pF a b n).set 0 (some (.cells [.vs (IL c) (.own 3)]))=pF c b n:=fun a c b n=>rfl;have N:∀ a b d n,(pF a b n).set 1 (some (.map (v_ d)))=pF a d n:=fun a b d n=>rfl;have u:∀ a b n e,(pF a b n).set 3 (some (.zone e))=pF a b e:=fun a b n e=>rfl;simp[VI 0 g,j7,p,m,o,F,v,w,H,h,K,I,z,t,u,M,j,q]
def J3{f:Nat}{cap args:List V}{r:V}{H H':ae}{base:Nat}{d:Option Nat}{os:List aD}{K:List Kt}{e:Env}{Q:Ex->Env->ae->Prop}(h:SF G f (args++cap) H r H')
  (a:WO G base os K (e.put d r) H' Q):J4 G false (.fn f cap) args base d os K e H Q:=by
 obtain⟨i,H1,b,c,g⟩:=h;refine kj b (fun h=>by cases h) ?_;rw[c,g];exact a
def fO(l xs:List af):List af:=xs.foldl qu l
def Cr:∀(xs l:List af),(fO l xs).length<=l.length+xs.length
 | [],l=>aaF _
 | x::xs,l=>by
  have a:=Cr xs (qu l x);have b:=Q3 l x;show(fO (qu l x) xs).length<=_;rw[aau];omega
def zsM(l xs:List af)(x:af):fO l (xs++[x])=qu (fO l xs) x:=by simp[fO]
def zwg(l xs ys:List af):fO l (xs++ys)=fO (fO l xs) ys:=by simp[fO]
def Az:List Nat:=[0,1,4,84,68,164]
def mZ(n:Nat):List af:=Az.map fun(o:Nat)=>(⟨o,0,0,n⟩:af)
def Fp(w:List af)(a:List Nat):List af:=fO (fO (fO [] w) [⟨7,0,0,0⟩,⟨135,0,0,0⟩]) (a.flatMap mZ)
def zyi[dR G][dx G][az G][ay G][aN G][ar G][y:ja G][cu G][aK G][cZ G][cd G][fT G][fE G](w:List af)(O:w.length<=maxLen)(C:∀ x∈w,x.k<4294967296)(z:aW w=true)
  (P:∀ n∈kS w++yS w,n<4294967296):FP G 330 [FL w] (.a_ [FL (Fp w (kS w++yS w)),.int .i64 0]):=by
 refine bD fE.adz (aah rfl) ?_;have D:=Af (G:=G) w O C;have E:=zyh (G:=G) w O C z
 have pY:w.length<=32:=by simp only[aW,aad,decide_eq_true_eq] at z;exact z.1
 have X:(kS w++yS w).length<=35:=by
  have:=Q1 w;rw[aan,yS];simp only[aan]
  have b:∀ o:Option Nat,o.toList.length<=1:=fun o=>by cases o<;>simp
  have a1:=b (du (aH [] w).L ((aH [] w).p.getD 0 0));have a2:=b (dj (aP 34) (aH [] w).L ((aH [] w).p.getD 0 0));have a3:=b (dj (4294967295::aP 33) (aH [] w).L ((aH [] w).p.getD 0 0));omega
 generalize kS w++yS w=fA at E X P |-;rw[z] at D;simp only[FL] at D E;simp[FL];refine ax D ?_;obtain⟨T,f⟩:∃ T:Nat->List af,∀ j,T j=fO [] (w.take j):=⟨_,fun _=>rfl⟩
 have Z:T 0=[]:=by rw[f];rfl
 have TN:T w.length=fO [] w:=by rw[f,aaX]
 have Tl:∀ i,i<=w.length->(T i).length<=i:=fun i hi=>by rw[f];have:=Cr (w.take i) [];rw[aav] at this;simp at this;omega
 have c:∀ l,(BL l).length=4:=fun l=>rfl;have kk:∀ l (r:ae),(BL l++r)[4]?=r[0]?:=fun l r=>nY (c l);have k0:∀ l (r:ae) x,(BL l++r).set 4 x=BL l++r.set 0 x:=fun l r x=>sK (c l) x;have bk:∀ l (r:ae),aj 4 (BL l++r)=BL l:=fun l r=>(VJ l l l.length).back r;have g:∀ l,aj 4 (BL l)=BL l:=fun l=>(VJ l l l.length).self;have F:∀ l,(BL l)[0]?=some (some (.cells [.vs (IL l) (.own 3)])):=fun l=>rfl;have hE:([some (.cells [.vs [] (.own 3)]),some (.map []),some (.cells [.mp 1]),some (.zone 0)]:ae)=BL []:=rfl
 simp[hE];refine aQ w.length (fun i=>[(0,FL w),(4,.ptr 0 0),(6,.fn 327 [.ptr 2 0,.ptr 0 0]),(18,FL w),(19,.int .i64 w.length),(20,.int .i64 i)]) (fun i=>BL (T i)) (fun _=>True) ?_ ?_
 ·simp[av,FL,Z,c,g]
 intro i hi _
 by_cases d:i<w.length
 ·obtain⟨x,H⟩:∃ x,x=w[i]:=⟨_,rfl⟩
  have hg:w[i]?=some x:=by rw[aae d,H]
  have Q:=tF d;rw[<-H] at Q;have fz:x.cs.length=4:=rfl;have lI:x.cs.take 4=x.cs:=rfl;have ha:([V.int .i64 0,.int .i64 0,.int .i64 0,.int .u32 0]:List V).drop 4=[]:=rfl;have vh:=C x (H▸aaW d);have nx:x.cs.map V.jq=x.cs:=rfl
  have I:T (i+1)=qu (T i) x:=by rw[f,f,aaM,hg];exact zsM _ _ _
  have h:=Q4 (G:=G) (T i) x [some (.cells x.cs)] (fun n=>by simp[aw.cl,af.cs,aX,V.cl]) (by have:=Tl i hi;omega) vh;simp only[IV] at h;simp(disch:=omega)[bM,FL,Q,fz,lI,c,kk,k0];refine J3 h ?_;simp(disch:=omega)[d,I,bH,av,c,bk,-aab]
 ·have J:i=w.length:=an
  subst J;have q:=Q4 (G:=G) (fO [] w) ⟨7,0,0,0⟩ [] (fun n=>rfl) (by have:=Cr w [];simp at this;omega) (by decide);have K:=Q4 (G:=G) (qu (fO [] w) ⟨7,0,0,0⟩) ⟨135,0,0,0⟩ [] (fun n=>rfl) (by have:=Cr w [];have:=Q3 (fO [] w) ⟨7,0,0,0⟩;simp at *;omega) (by decide);obtain⟨B,y⟩:∃ B,B=qu (qu (fO [] w) ⟨7,0,0,0⟩) ⟨135,0,0,0⟩:=⟨_,rfl⟩;rw[<-y] at K
  have Dz:B.length<=34:=by rw[y];have b:=Cr w [];have M:=Q3 (fO [] w) ⟨7,0,0,0⟩;have R:=Q3 (qu (fO [] w) ⟨7,0,0,0⟩) ⟨135,0,0,0⟩;simp at b;omega
  have AA:Fp w fA=fO B (fA.flatMap mZ):=by rw[y];rfl
  simp only[IV,af.cs,abq] at q K;simp[FL,TN];refine J3 q ?_;simp;refine J3 K ?_;simp;refine ax E ?_;obtain⟨U,s⟩:∃ U:Nat->List af,∀ j,U j=fO B ((fA.take j).flatMap mZ):=⟨_,fun _=>rfl⟩
  have U0:U 0=B:=by rw[s];rfl
  have UN:U fA.length=Fp w fA:=by rw[s,aaX,AA]
  have Ul:∀ i,(U i).length<=34+6*35:=fun i=>by
   rw[s];have b:=Cr ((fA.take i).flatMap mZ) B
   have M:((fA.take i).flatMap mZ).length=6*(fA.take i).length:=by
    generalize fA.take i=l
    induction l with
    | nil=>rfl
    | cons a l ih=>rw[aa8,aan,ih,aau];simp[mZ,Az];omega
   rw[M,aav] at b;omega
  simp[F];refine aQ fA.length (fun i=>[(4,.ptr 0 0),(6,.fn 327 [.ptr 2 0,.ptr 0 0]),(35,.vs (ak .u32 fA) .no),(36,.int .i64 fA.length),(37,.int .i64 i)]) (fun i=>BL (U i)) (fun _=>True) ?_ ?_
  ·simp[av,U0,c,g]
  intro i VG _
  by_cases d:i<fA.length
  ·obtain⟨n,N⟩:∃ n,n=fA[i]:=⟨_,rfl⟩
   have yU:fA[i]?=some n:=by rw[aae d,N]
   have Q5:=P n (N▸aaW d);obtain⟨Y,t⟩:∃ Y:Nat->List af,∀ j,Y j=fO (U i) ((mZ n).take j):=⟨_,fun _=>rfl⟩
   have Y0:Y 0=U i:=by rw[t];rfl
   have Y6:Y 6=U (i+1):=by rw[t,s,s,aam (show(mZ n).length<=6 from aaF _),aaM,yU];simp[zwg]
   have Yl:∀ j,(Y j).length<=34+6*35+6:=fun j=>by
    rw[t];have b:=Cr ((mZ n).take j) (U i);have M:=Ul i;have R:(mZ n).length=6:=rfl;rw[aav,R] at b;omega
   obtain⟨e,A⟩:∃ e:List V,e=[.int .i64 0,.int .i64 1,.int .i64 4,.int .i64 84,.int .i64 68,.int .i64 164]:=⟨_,rfl⟩
   have l6:e.length=6:=by rw[A];rfl
   have S:∀ m,aX m e=e:=fun m=>by rw[A];simp[aX,V.cl]
   have VM:∀ j,j<6->(e.drop j).take 1=[.int .i64 (Az.getD j 0:Nat)]:=fun j hj=>by
    rw[A]
    rcases(by omega:j=0\/j=1\/j=2\/j=3\/j=4\/j=5) with rfl|rfl|rfl|rfl|rfl|rfl<;>rfl
   simp(disch:=omega)[bM,N.symm,<-A,F];refine aQ 6 (fun j=>[(4,.ptr 0 0),(6,.fn 327 [.ptr 2 0,.ptr 0 0]),(10,.int .u32 n),(35,.vs (ak .u32 fA) .no),(36,.int .i64 fA.length),(37,.int .i64 i),(41,.agg e),(42,.int .i64 j)]) (fun j=>BL (Y j)) (fun _=>True) ?_ ?_
   ·simp[av,Y0,c,g,S]
   intro j hj _
   by_cases u:j<6
   ·obtain⟨o,W⟩:∃ o,o=Az.getD j 0:=⟨_,rfl⟩
    have I:Y (j+1)=qu (Y j) ⟨o,0,0,n⟩:=by
     rw[t,t,aaM,<-zsM]
     congr 2
     have:(mZ n)[j]?=some ⟨o,0,0,n⟩:=by
      rw[W]
      rcases(by omega:j=0\/j=1\/j=2\/j=3\/j=4\/j=5) with rfl|rfl|rfl|rfl|rfl|rfl<;>rfl
     rw[this];rfl
    have v:=VM j u;rw[<-W] at v;have h:=Q4 (G:=G) (Y j) ⟨o,0,0,n⟩ [] (fun n=>rfl) (by have:=Yl j;omega) Q5;simp only[IV,af.cs,abq] at h;simp(disch:=omega)[bM,l6,v,aC];refine J3 h ?_;simp(disch:=omega)[u,I,bH,av,c,g,S,-aab]
   ·obtain rfl:j=6:=by omega
    simp(disch:=omega)[d,bH,av,c,g,Y6,-aab]
  ·have J:i=fA.length:=an
   subst J;simp[F,UN]
def Q7(L:List af):List (List af):=L.flatMap fun x=>L.map fun y=>[x,y]
def qv(w L:List af):List (List af) :=
 if w.length=0 then [] else []::(if w.length=1 then [] else L.map (fun x=>[x])++(if w.length=2 then [] else Q7 L))
def zsN{L:List af}{i j:Nat}{x y:af}:∀{K:List af},K[i]?=some x->L[j]?=some y->(K.flatMap fun x=>L.map fun y=>[x,y])[i*L.length+j]?=some [x,y]
 | [],h,_=>by simp at h
 | z::K,h,a=>by
  have b:=(aaa.1 a).1;rw[aa8]
  cases i with
  | zero =>
   simp only[aaU,abb.injEq] at h;subst h
   rw[Nat.zero_mul,aa5,aal (by simpa using b),abc,a];rfl
  | succ i =>
   rw[aaH] at h;rw[aa7 (by rw[abr,abU];omega),abr,show(i+1)*L.length+j-L.length=i*L.length+j by rw[abU];omega];exact zsN h a
def zsO(L:List af):∀ K:List af,(K.flatMap fun x=>L.map fun y=>[x,y]).length=K.length*L.length
 | []=>by simp
 | z::K=>by rw[aa8,aan,zsO L K,abr,aau,abU];omega
section
variable {w L:List af} {i j:Nat} {x y:af}
def zEd(a:w.length≠0):(qv w L)[0]?=some []:=by simp[qv,a]
def zLl(a:2<=w.length)(h:L[i]?=some x):(qv w L)[i+1]?=some [x]:=by have hi:=(aaa.1 h).1;rw[qv,if_neg an,aaH,if_neg an,aal (by simpa using hi),abc,h];rfl
def zLm(b:3<=w.length)(h:L[i]?=some x)(a:L[j]?=some y):(qv w L)[L.length+1+(i*L.length+j)]?=some [x,y]:=by rw[qv,if_neg an,show L.length+1+(i*L.length+j)=(L.length+(i*L.length+j))+1 by omega,aaH,if_neg an,aa7 ir,abr,if_neg an,Nat.add_sub_cancel_left];exact zsN h a
def zB2:(qv w L).length=if w.length=0 then 0 else if w.length=1 then 1 else if w.length=2 then L.length+1 else L.length+1+L.length*L.length:=by
 unfold qv;split
 ·rfl
 split
 ·rfl
 split
 ·simp
 ·simp only[aau,aan,abr,Q7,zsO];omega
def Q8{c:List af}(h:c∈qv w L):c.length<w.length:=by
 unfold qv at h;split at h
 ·cases h
 ·split at h
  ·simp at h;subst h;simp;omega
  ·split at h
   ·simp at h
    rcases h with rfl|⟨a,_,rfl⟩
    ·simp;omega
    ·simp;omega
   ·simp[Q7] at h
    rcases h with rfl|⟨a,_,rfl⟩|⟨a,_,b,_,rfl⟩
    ·simp;omega
    ·simp;omega
    ·simp;omega
def Q9{c:List af}(h:c∈qv w L):∀ x∈c,x∈L:=by
 unfold qv at h;split at h
 ·cases h
 ·split at h
  ·simp at h;subst h;simp
  ·split at h
   ·simp at h
    rcases h with rfl|⟨a,d,rfl⟩<;>simp_all
   ·simp[Q7] at h
    rcases h with rfl|⟨a,d,rfl⟩|⟨a,d,b,e,rfl⟩<;>simp_all
end
def tL(hit:Nat->List af->Bool):List (List af)->Nat->Option (Nat×List af)
 | [],_=>none
 | c::l,k=>if hit k c=true then some (k,c) else tL hit l (k+1)
def zph{hit:Nat->List af->Bool}:∀{l:List (List af)} {k:Nat},(∀ j<l.length,∀ c,l[j]?=some c->hit (k+j) c=false)->tL hit l k=none
 | [],_,_=>rfl
 | c::l,k,h=>by
  rw[tL,if_neg (by rw[show k=k+0 by rfl,h 0 ir c rfl];simp)]
  exact zph fun j b c a=>by rw[show k+1+j=k+(j+1) by omega];exact h (j+1) (by simp;omega) c (by simpa using a)
def VN{hit:Nat->List af->Bool}{c:List af}:∀{l:List (List af)} {k j:Nat},l[j]?=some c->hit (k+j) c=true->(∀ i<j,∀ c,l[i]?=some c->hit (k+i) c=false)->tL hit l k=some (k+j,c)
 | [],_,_,h,_,_=>by simp at h
 | d::l,k,0,h,a,_=>by
  simp only[aaU,abb.injEq] at h;subst h;rw[abt] at a
  rw[tL,if_pos a];rfl
 | d::l,k,j+1,h,a,b=>by
  rw[tL,if_neg (by rw[show k=k+0 by rfl,b 0 an d rfl];simp)];rw[show k+(j+1)=k+1+j by omega] at a |-
  exact VN (by simpa using h) a fun i hi c e=>by rw[show k+1+i=k+(i+1) by omega];exact b (i+1) an c (by simpa using e)
open Go Go.RowKit
variable {G:aM}
def zzN[fF G]{H:ae}(fH:im H){id i1 i2:Nat}{w L:List af}{tk:Tk}(zN:w.length<=1000)(hL:L.length<=1000)
  (f:H[i1]?=some (some (.cells [.vs (IL w) .no]))) (M:H[i2]?=some (some (.cells [.vs (IL L) .no]))) (bI:id<H.length) {hit:Nat->List af->Bool} {H':Nat->List af->ae}
  (wH:∀ k c,(qv w L)[k]?=some c->hit k c=false->∀ X:ae,(∀ n,X.map (aaB (aw.cl n))=X)->YS G id [.int .i64 k,.vs (IL c) .full] (H++X) true (H++X))
  (jj:∀ k c,(qv w L)[k]?=some c->hit k c=true->∀ X:ae,(∀ n,X.map (aaB (aw.cl n))=X)->YS G id [.int .i64 k,.vs (IL c) .full] (H++X) false (H' k c++X))
  (nW:∀ k c,(qv w L)[k]?=some c->hit k c=true->aj H.length (H' k c)=H' k c/\(H' k c).length=H.length) :
  SF G 328 [.yld id,.ptr i1 0,.ptr i2 0] H (.a_ []) (match tL hit (qv w L) 0 with|some p=>H' p.1 p.2|none=>H):=by
 refine ke fF.adA (aah rfl) ?_;have Di:i1<H.length:=(aaa.1 f).1;have N:i2<H.length:=(aaa.1 M).1;have B:=fH.self;have qN:=fH.back;have g1:=(aaa.1 f).2;have g2:=(aaa.1 M).2
 have e1:∀ X:ae,(H++X)[i1]?=some (some (.cells [.vs (IL w) .no])):=fun X=>by rw[aal Di];exact f
 have e2:∀ X:ae,(H++X)[i2]?=some (some (.cells [.vs (IL L) .no])):=fun X=>by rw[aal N];exact M
 have G7:∀(X:ae) h,(H++X)[i1]'h=some (.cells [.vs (IL w) .no]):=fun X h=>(aaa.1 (e1 X)).2;have Cj:∀(X:ae) h,(H++X)[i2]'h=some (.cells [.vs (IL L) .no]):=fun X h=>(aaa.1 (e2 X)).2;have k0:∀(r:ae) x,(H++r).set H.length x=H++r.set 0 x:=fun r x=>sK rfl x;have kk:∀ r:ae,(H++r)[H.length]?=r[0]?:=fun r=>nY rfl;have ha:∀(r:ae) x,(H++r).set (H.length+1) x=H++r.set 1 x:=fun r x=>xT rfl 1 x;have hb:∀ r:ae,(H++r)[H.length+1]?=r[1]?:=fun r=>qO rfl 1
 have O:=zB2 (w:=w) (L:=L);have l_:∀ x:af,(∀ y∈x.cs,y.pure=true)=True:=fun x=>eq_true (fun y d=>by simp only[af.cs,aaG,aaK,or_false] at d;rcases d with rfl|rfl|rfl|rfl<;>rfl);have fz:∀ x:af,x.cs.length=4:=fun x=>rfl;have lI:∀ x:af,x.cs.take 4=x.cs:=fun x=>rfl;have nx:∀ x:af,x.cs.map V.jq=x.cs:=fun x=>rfl
 have kx:∀(x:af) n,aX n x.cs=x.cs:=fun x n=>by simp[af.cs,aX,V.cl]
 obtain⟨C,P⟩:∃ C,C=qv w L:=⟨_,rfl⟩;rw[<-P] at O |-
 have jH:∀ n,C.length<=n->(∀ j<n,∀ c,C[j]?=some c->hit j c=false)->tL hit C 0=none:=fun n g l=>zph fun j o c a=>by rw[aa5];exact l j an c a
 have tM:∀ k c,C[k]?=some c->hit k c=true->(∀ j<k,∀ c,C[j]?=some c->hit j c=false)->tL hit C 0=some (k,c):=fun k c a b l=>by
  have:=VN (hit:=hit) (k:=0) a (by rw[aa5];exact b) fun i hi c a=>by rw[aa5];exact l i hi c a
  rwa[aa5] at this
 rw[<-P] at wH jj nW
 by_cases t:w.length=0
 ·have g:tL hit C 0=none:=jH 0 (by rw[O,if_pos t];exact aaF _) fun j o=>by omega
  have Q:((w.length:Int)==0)=true:=by simp[t]
  simp[f,t,g,B]
 have Q:((w.length:Int)==0)=false:=aO an
 have D:C[0]?=some []:=by rw[P];exact zEd t
 simp[f,Q]
 cases E:hit 0 [] with
 | true =>
  have:=jj 0 [] D E [] (fun n=>rfl);simp only[abq,IL,abQ] at this;refine Ck this ?_
  have F:=tM 0 [] D E fun j o=>by omega
  obtain⟨I,R⟩:=nW 0 [] D E
  simp[F,I]
 | false =>
 have:=wH 0 [] D E [] (fun n=>rfl);simp only[abq,IL,abQ] at this;refine Ck this ?_
 by_cases w1:w.length=1
 ·have g:tL hit C 0=none:=jH 1 (by rw[O,if_neg t,if_pos w1];exact aaF _) fun j o c a=>by
   obtain rfl:j=0:=by omega
   rw[D] at a;cases a;exact E
  simp[f,w1,g,B]
 have he:((w.length:Int)==1)=false:=aO an
 have wL:2<=w.length:=an
 simp[f,M,he]
 have P1:∀ j<1,∀ c,C[j]?=some c->hit j c=false:=fun j o c a=>by
  obtain rfl:j=0:=by omega
  rw[D] at a;cases a;exact E
 have pW:∀ X:ae,(∀ n,X.map (aaB (aw.cl n))=X)->aj H.length (H++X)=H:=fun X _=>qN X;obtain⟨u,v⟩:∃ u:Nat->Nat,∀ i,u i=i+1:=⟨_,fun _=>rfl⟩;have VO:u 0=1:=v 0;refine aQ L.length (fun i=>[(0,.yld id),(1,.ptr i1 0),(2,.ptr i2 0),(4,.int .i64 (u i:Nat)),(24,.vs (IL L) .no),(25,.int .i64 L.length),(26,.int .i64 i)]) (fun _=>H) (fun i=>∀ j<i+1,∀ c,C[j]?=some c->hit j c=false) ?_ ?_
 ·simp[av,B,bI,Di,N,VO];simpa using P1
 intro i hi l
 by_cases z:i<L.length
 ·obtain⟨x,S⟩:∃ x,x=L[i]:=⟨_,rfl⟩
  have hg:L[i]?=some x:=by rw[aae z,S]
  have T:=tF z;rw[<-S] at T
  have a:C[i+1]?=some [x]:=by rw[P];exact zLl wL hg
  have J:∀ n,([some (aw.cells x.cs)]:ae).map (aaB (aw.cl n))=[some (aw.cells x.cs)]:=fun n=>by simp[aw.cl,kx]
  have Mr:∀ n,([some (aw.cells x.cs)]:ae).map (aaB (aw.cl n))=[some (aw.cells x.cs)]:=J;simp(disch:=omega)[bM,T,fz,lI,kk,k0,l_];have U:IL [x]=[x.cs]:=rfl
  cases b:hit (i+1) [x] with
  | true =>
   have d:=jj (i+1) [x] a b _ J;rw[U,<-v i] at d;refine Ck d ?_;have F:=tM (i+1) [x] a b l;obtain⟨I,R⟩:=nW (i+1) [x] a b;rw[<-v i] at I R F
   simp[F,Mc I R]
  | false =>
   have d:=wH (i+1) [x] a b _ J;rw[U,<-v i] at d;refine Ck d ?_
   have uD:∀ j<i+1+1,∀ c,C[j]?=some c->hit j c=false:=fun j o c A=>by
    rcases aaz.1 o with h|rfl
    ·exact l j h c A
    ·rw[a] at A;cases A;exact b
   have a1:aE .i64 (u i:Int) 1=(u (i+1):Int):=by rw[v,v];exact bH an
   simp(disch:=omega)[z,bH,a1,av,qN,bI,Di,N,-aab];exact uD
 ·have aB:i=L.length:=an
  subst aB;simp
  by_cases w2:w.length=2
  ·have g:tL hit C 0=none:=jH (L.length+1) (by rw[O,if_neg t,if_neg w1,if_pos w2];exact aaF _) l;simp[f,w2,g,B]
  have hk:((w.length:Int)==2)=false:=aO an
  have hl:3<=w.length:=an
  have nn:L.length*L.length<=1000000:=acB (Nat.mul_le_mul hL hL) (by decide);simp[f,M,hk];obtain⟨s,Q_⟩:∃ s:Nat->Nat,∀ i,s i=L.length+1+i*L.length:=⟨_,fun _=>rfl⟩
  have VP:s 0=L.length+1:=by rw[Q_];omega
  have VQ:u L.length=L.length+1:=v _;refine aQ L.length (fun i=>[(0,.yld id),(2,.ptr i2 0),(4,.int .i64 (s i:Nat)),(42,.vs (IL L) .no),(43,.int .i64 L.length),(44,.int .i64 i)]) (fun _=>H) (fun i=>∀ j<s i,∀ c,C[j]?=some c->hit j c=false) ?_ ?_
  ·simp[av,B,bI,N,VP,VQ];exact l
  intro i hi hQ;have we:i*L.length<=L.length*L.length:=Nat.mul_le_mul_right _ hi
  by_cases z:i<L.length
  ·obtain⟨x,S⟩:∃ x,x=L[i]:=⟨_,rfl⟩
   have hg:L[i]?=some x:=by rw[aae z,S]
   have T:=tF z;rw[<-S] at T
   have J:∀ n,([some (aw.cells x.cs)]:ae).map (aaB (aw.cl n))=[some (aw.cells x.cs)]:=fun n=>by simp[aw.cl,kx]
   have ho:aj (H.length+1) (H++[some (.cells x.cs)])=H++[some (.cells x.cs)]:=by have:=(fH.app J).self;simpa using this
   have mT:∀ r:ae,aj (H.length+1) (H++some (.cells x.cs)::r)=H++[some (.cells x.cs)]:=fun r=>by
    have:=(fH.app J).back r;simpa using this
   have hp:(i+1)*L.length=i*L.length+L.length:=abU _ _;have hr:∀ r:ae,(H++r)[i2]?=some (some (.cells [.vs (IL L) .no])):=e2;simp(disch:=omega)[bM,T,fz,lI,kk,k0,e2];obtain⟨e,K⟩:∃ e:Nat->Nat,∀ j,e j=L.length+1+(i*L.length+j):=⟨_,fun _=>rfl⟩
   have VR:e 0=s i:=by rw[K,Q_];omega
   have MC:e L.length=s (i+1):=by rw[K,Q_];omega
   have VT:∀ j,e (j+1)=e j+1:=fun j=>by rw[K,K];omega
   have VU:∀ j,j<=L.length->e j<=2000000:=fun j o=>by rw[K];omega
   refine aQ L.length (fun j=>[(0,.yld id),(2,.ptr i2 0),(4,.int .i64 (e j:Nat)),(8,.ptr H.length 0),(42,.vs (IL L) .no),(43,.int .i64 L.length),(44,.int .i64 i),(48,.vs (IL L) .no),(49,.int .i64 L.length),(50,.int .i64 j)]) (fun _=>H++[some (.cells x.cs)]) (fun j=>∀ m<e j,∀ c,C[m]?=some c->hit m c=false) ?_ ?_
   ·simp[av,ho,show id<H.length+1 by omega,show i2<H.length+1 by omega,VR];exact hQ
   intro j o hR
   by_cases wi:j<L.length
   ·obtain⟨y,d⟩:∃ y,y=L[j]:=⟨_,rfl⟩
    have J6:L[j]?=some y:=by rw[aae wi,d]
    have yV:=tF wi;rw[<-d] at yV
    have a:C[L.length+1+(i*L.length+j)]?=some [x,y]:=by rw[P];exact zLm hl hg J6
    have W:∀ n,([some (aw.cells x.cs),some (aw.cells y.cs)]:ae).map (aaB (aw.cl n))=[some (aw.cells x.cs),some (aw.cells y.cs)]:=fun n=>by simp[aw.cl,kx]
    have U:IL [x,y]=[x.cs,y.cs]:=rfl;rw[<-K j] at a;have VV:=VU j an;have Y:=VT j;obtain⟨q,hq⟩:∃ q,q=e j:=⟨_,rfl⟩;rw[<-hq] at a VV Y
    have Hq:∀ m<q,∀ c,C[m]?=some c->hit m c=false:=by rw[hq];exact hR
    have a3:aE .i64 (q:Int) 1=((q+1:Nat):Int):=bH an;simp only[<-hq];simp(disch:=omega)[bM,yV,fz,lI,kk,hb,ha,l_]
    cases b:hit q [x,y] with
    | true =>
     have Z:=jj q [x,y] a b _ W;rw[U] at Z;refine Ck Z ?_;have F:=tM q [x,y] a b Hq;obtain⟨I,R⟩:=nW q [x,y] a b
     simp[F,Mc I R]
    | false =>
     have Z:=wH q [x,y] a b _ W;rw[U] at Z;refine Ck Z ?_
     have uD:∀ m<q+1,∀ c,C[m]?=some c->hit m c=false:=fun m hm c A=>by
      rcases aaz.1 hm with h|rfl
      ·exact Hq m h c A
      ·rw[a] at A;cases A;exact b
     simp(disch:=omega)[wi,bH,a3,Y,av,mT,show id<H.length+1 by omega,show i2<H.length+1 by omega,-aab];exact uD
   ·obtain rfl:j=L.length:=by omega
    rw[MC] at hR;simp(disch:=omega)[MC,z,bH,av,qN,bI,N,-aab,-abn];exact hR
  ·have aB:i=L.length:=an
   subst aB;have g:tL hit C 0=none:=jH (s L.length) (by rw[Q_,O,if_neg t,if_neg w1,if_neg w2];exact aaF _) hQ;simp[g,B]
def ME:bc:=.seq (.region 0 [⟨some 11,.mv (.t 26),none⟩]) (.region 0 [⟨some 12,.mv (.t 27),none⟩])
def MF:bc:=.block 1 (.seq (.seq (.region 0 [⟨some 28,.mv (.t 11),none⟩,⟨some 29,.load 1 false false (.t 5),none⟩,⟨some 30,.bin .geq (.t 28) (.t 29),none⟩]) (.cond (.t 30) (.exit 0) .skip)) (.seq (.keep [3,4,6,7,8,12])
 (.seq (.region 1 [⟨some 32,.load 1 false false (.t 3),none⟩,⟨some 33,.mv (.t 12),none⟩,⟨some 34,.load 1 false false (.t 4),none⟩,⟨some 35,.pcall 312 [.t 32,.t 33,.t 34],none⟩,⟨some 31,.mv (.t 35),none⟩,⟨some 36,.ext 0 (.t 31),none⟩,⟨some 37,.ext 1 (.t 31),none⟩,
  ⟨some 13,.alloc 0 (dN 0 none),none⟩,⟨none,.store 28 (.t 13) (.t 36),none⟩,⟨some 14,.mv (.t 37),none⟩]) (.seq (.keep [6,7,8,12,13]) (.seq (.region 0 [⟨some 38,.pG 0 (.t 13),none⟩,⟨some 39,.load 1 false false (.t 38),none⟩,⟨some 40,.bin .eql (.t 39) (.c (.int .i64 0)),none⟩])
   (.cond (.t 40) (.seq (.region 0 [⟨some 41,.mv (.t 12),none⟩,⟨none,.store 1 (.t 6) (.t 41),none⟩,⟨none,.store 1 (.t 7) (.c (.bool true)),none⟩,⟨none,.store 1 (.t 8) (.c (.int .i64 0)),none⟩]) .ret) .skip))))))
def J7:List (Nat×V):=[(3,.ptr 0 0),(4,.ptr 1 0),(5,.ptr 2 0),(6,.ptr 3 0),(7,.ptr 4 0),(8,.ptr 5 0)]
def FH(w L:List af)(live:Nat)(tries:Int)(o:List af)(b:Bool)(st:Al):ae :=
 [some (.cells [.vs (IL w) .no]),some (.cells [.int .u32 live]),some (.cells [.int .i64 tries]),some (.cells [.vs (IL o) .full]),some (.cells [.bool b]),some (.cells [.int .i64 0]),some (.cells [.vs (IL w) .no]),some (.cells [.vs (IL L) .no]),some (.loop J7 [26,27] ME MF st)]
section
variable {w L o:List af} {live:Nat} {tries:Int} {b:Bool} {st:Al}
def Ra:im (FH w L live tries o b st):=by intro n a;simp only[FH,aau,abC] at a;simp[FH,J7,aw.cl,aX,V.cl,Tk.cl,show 0<n by omega,show 1<n by omega,show 2<n by omega,show 3<n by omega,show 4<n by omega,show 5<n by omega]
noncomputable def oX(w:List af)(live:Nat)(tries:Int)(k:Nat)(c:List af):Bool:=decide (tries<=k)||decide ((eo w c live).1=0)
def zuu[dR G][dx G][az G][ay G][bQ G][dw G][cT G][aN G][cU G][cV G][bW G][cd G][bS G][ar G][Cc:dS G][cu G][aK G][bX G][cN G][eS G]
  (k:Nat) (c:List af) (p:w.length<=maxLen) (q:∀ x∈w,x.k<4294967296) (s:live<4294967296) (t:c.length<=maxLen) (u:∀ x∈c,x.k<4294967296) (X:ae) (v:∀ n,X.map (aaB (aw.cl n))=X) :
  YS G 8 [.int .i64 k,.vs (IL c) .full] (FH w L live tries [] false .ready++X) (!oX w live tries k c)
   (if tries<=k then FH w L live tries [] false (.done (.exit 0))++X else if(eo w c live).1=0 then FH w L live tries c true (.done .ret)++X else FH w L live tries [] false .ready++X):=by
 have nF:∀ o b st,(FH w L live tries o b st).length=9:=fun o b st=>rfl
 obtain⟨a,H',z,rfl,rfl⟩:=zEk (R:=fun a H'=>a=(!oX w live tries k c)/\H'=(if tries<=k then FH w L live tries [] false (.done (.exit 0))++X else if(eo w c live).1=0 then FH w L live tries c true (.done .ret)++X else FH w L live tries [] false .ready++X))
  (G:=G) (H:=FH w L live tries [] false .ready++X) (id:=8) (args:=[.int .i64 k,.vs (IL c) .full]) (e0:=J7) (ps:=[26,27]) (as:=ME) (bo:=MF) rfl rfl (by
  have C:∀ o b st d (r:ae),(FH w L live tries o b st++r).set 8 (some (.loop J7 [26,27] ME MF d))=FH w L live tries o b d++r:=fun o b st d r=>rfl;have f:∀ o b st (r:ae),(FH w L live tries o b st++r)[8]?=some (some (.loop J7 [26,27] ME MF st)):=fun o b st r=>rfl;have D:∀ o b st (r:ae),(FH w L live tries o b st++r)[0]?=some (some (.cells [.vs (IL w) .no])):=fun o b st r=>rfl;have E:∀ o b st (r:ae),(FH w L live tries o b st++r)[1]?=some (some (.cells [.int .u32 live])):=fun o b st r=>rfl
  have F:∀ o b st (r:ae),(FH w L live tries o b st++r)[2]?=some (some (.cells [.int .i64 tries])):=fun o b st r=>rfl;have I:∀ o b st (r:ae),(FH w L live tries o b st++r)[3]?=some (some (.cells [.vs (IL o) .full])):=fun o b st r=>rfl;have J:∀ o b st (r:ae),(FH w L live tries o b st++r)[4]?=some (some (.cells [.bool b])):=fun o b st r=>rfl;have K:∀ o b st (r:ae),(FH w L live tries o b st++r)[5]?=some (some (.cells [.int .i64 0])):=fun o b st r=>rfl
  have M:∀ o e b st (r:ae),(FH w L live tries o b st++r).set 3 (some (.cells [.vs (IL e) .full]))=FH w L live tries e b st++r:=fun o e b st r=>rfl;have N:∀ o b a st (r:ae),(FH w L live tries o b st++r).set 4 (some (.cells [.bool a]))=FH w L live tries o a st++r:=fun o b a st r=>rfl;have O:∀ o b st (r:ae),(FH w L live tries o b st++r).set 5 (some (.cells [.int .i64 0]))=FH w L live tries o b st++r:=fun o b st r=>rfl
  have h:∀ o b st (r:ae),aj (9+X.length) (FH w L live tries o b st++(X++r))=FH w L live tries o b st++X:=fun o b st r=>by
   have:=((Ra (w:=w) (L:=L) (live:=live) (tries:=tries) (o:=o) (b:=b) (st:=st)).app v).back r;rw[aat,aan,nF] at this;exact this
  have i:∀ o b st,aj (9+X.length) (FH w L live tries o b st++X)=FH w L live tries o b st++X:=fun o b st=>by
   have:=h o b st [];simpa using this
  have kk:∀ o b st (r:ae),(FH w L live tries o b st++(X++r))[9+X.length]?=r[0]?:=fun o b st r=>by
   rw[<-aat];exact nY (by simp[nF])
  have P:∀ o b st (r:ae) y,(FH w L live tries o b st++(X++r)).set (9+X.length) y=FH w L live tries o b st++(X++r.set 0 y):=fun o b st r y=>by
   rw[<-aat,sK (by simp[nF]),aat]
  have hd:=zsG (G:=G) w c live p t q u s;simp only[FL] at hd;obtain⟨A,l⟩:∃ A,A=dN 0 none:=⟨_,rfl⟩
  have Q:A.length=28:=by rw[l];rfl
  obtain⟨g,B,S,T,kB,U,W⟩:∃(g:Int) (B:List V),(eo w c live).1=g/\B=dN (eo w c live).1 (eo w c live).2/\(∀ n,aX n B=B)/\B.length=28/\B.take 1=[.int .i64 g] :=
   ⟨_,_,rfl,rfl,fun n=>QD _ _ n,zuo w c live,zwU _ _⟩
  have tB:B.take 28=B:=aam an;have Y:A.drop 28=[]:=aap an;rw[<-T] at hd;simp only[oX,S];simp[ME,J7,rZ];refine⟨_,_,_,_,f _ _ _ _,?_⟩;rw[C];simp[MF,nF,F];have Z:∀ o e b st,(FH w L live tries o b st).set 3 (some (.cells [.vs (IL e) .full]))=FH w L live tries e b st:=fun o e b st=>rfl;have ha:∀ o b a st,(FH w L live tries o b st).set 4 (some (.cells [.bool a]))=FH w L live tries o a st:=fun o b a st=>rfl
  have hb:∀ o b st,(FH w L live tries o b st).set 5 (some (.cells [.int .i64 0]))=FH w L live tries o b st:=fun o b st=>rfl
  by_cases m:tries<=(k:Int)
  ·simp[m,f];exact⟨_,_,_,_,⟨rfl,rfl,rfl,rfl⟩,i _ _ _⟩
  simp[m,nF,D,E];refine ax hd ?_;simp[nF,<-l,Q,U,Y,P,W]
  by_cases j:g=0
  ·simp[j,nF,I,J,K,M,N,O,f];exact⟨_,_,_,_,⟨rfl,rfl,rfl,rfl⟩,h _ _ _ _⟩
  ·simp[j,aO j,nF,f]
   exact⟨_,_,_,_,⟨rfl,rfl,rfl,rfl⟩,h _ _ _ _⟩)
 exact z
end
def zzO{L:List Nd}(h:Inv L){x:Int}{c:Nat}(e:du L x=some c):c<4294967296:=by
 unfold du at e;split at e
 ·cases b:L[x.toNat]? with
  | none=>rw[b] at e;cases e
  | some a =>
   rw[b] at e;simp only[Option.bind_some,p7] at e;split at e
   ·exact x6 e (h.wf a (aaq b)).1
   ·cases e
 ·cases e
def zw0{w:List af}(b:∀ x∈w,x.k<4294967296)(j:aW w=true):∀ n∈kS w++yS w,n<4294967296:=by
 have hi:Inv (aH [] w).L:=(An Inv.nil w b).ext.inv;intro n a;rw[aaD] at a
 rcases a with a|a
 ·simp only[kS,aa0,List.mem_filter] at a;obtain⟨x,⟨e,_⟩,rfl⟩:=a;exact b x e
 ·simp only[yS,aaD,Option.mem_toList] at a
  have c:∀ v,dj v (aH [] w).L ((aH [] w).p.getD 0 0)=some n->n<4294967296:=fun v h=>by
   have f:0<=(aH [] w).p.getD 0 0:=by
    unfold dj at h;split at h
    ·rename_i d;simp only[cA,decide_eq_true_eq] at d;exact d.1
    ·cases h
   obtain⟨i,g⟩:=aa3 f;rw[g] at h;exact VW hi h
  rcases a with h|h|h
  ·exact zzO hi h
  ·exact c _ h
  ·exact c _ h
noncomputable def fB(w:List af):List af:=Fp w (kS w++yS w)
def zLn{l:List af}{x:af}(a:∀ y∈l,y.k<4294967296)(b:x.k<4294967296):∀ y∈qu l x,y.k<4294967296:=by
 unfold qu;split
 ·exact a
 ·split
  ·intro y c
   rcases aaD.1 c with h|h
   ·exact a y h
   ·rw[aaI.1 h];exact b
  ·exact a
def Rb:∀{xs l:List af},(∀ y∈l,y.k<4294967296)->(∀ y∈xs,y.k<4294967296)->∀ y∈fO l xs,y.k<4294967296
 | [],_,a,_=>a
 | x::xs,l,a,b=>by
  show ∀ y∈fO (qu l x) xs,y.k<4294967296;exact Rb (zLn a (b x ir)) fun y c=>b y (by simp[c])
def zzP{w:List af}{b:List Nat}(c:∀ x∈w,x.k<4294967296)(d:∀ n∈b,n<4294967296):∀ y∈Fp w b,y.k<4294967296:=by
 refine Rb (Rb (Rb ir c) ?_) ?_
 ·intro y a;simp only[aaG,aaK,or_false] at a
  rcases a with rfl|rfl<;>decide
 ·intro y a;simp only[acr,mZ,aa0] at a;obtain⟨n,e,o,_,rfl⟩:=a;exact d n e
def zwh(w:List af)(b:List Nat):(Fp w b).length<=w.length+2+6*b.length:=by
 unfold Fp;have c:=Cr w [];have d:=Cr [⟨7,0,0,0⟩,⟨135,0,0,0⟩] (fO [] w);have f:=Cr (b.flatMap mZ) (fO (fO [] w) [⟨7,0,0,0⟩,⟨135,0,0,0⟩])
 have g:(b.flatMap mZ).length=6*b.length:=by
  generalize b=l
  induction l with
  | nil=>rfl
  | cons a l e=>rw[aa8,aan,e,aau];simp[mZ,Az];omega
 simp at c d;omega
def zB3(w:List af):(yS w).length<=3:=by
 have a:∀ o:Option Nat,o.toList.length<=1:=fun o=>by cases o<;>simp
 have b:=a (du (aH [] w).L ((aH [] w).p.getD 0 0));have c:=a (dj (aP 34) (aH [] w).L ((aH [] w).p.getD 0 0));have d:=a (dj (4294967295::aP 33) (aH [] w).L ((aH [] w).p.getD 0 0));rw[yS,aan,aan];omega
def zqB{w:List af}(a:∀ x∈w,x.k<4294967296)(b:aW w=true):∀ y∈fB w,y.k<4294967296:=zzP a (zw0 a b)
def zuv{w:List af}(a:aW w=true):(fB w).length<=300:=by
 have c:w.length<=32:=by simp only[aW,aad,decide_eq_true_eq] at a;exact a.1
 have b:=zwh w (kS w++yS w);have d:=Q1 w;have e:=zB3 w;rw[aan] at b;unfold fB;omega
def zEP[fF G](H:ae)(w L:List af):bA G (.F 329 [.vs (IL w) .no,.vs (IL L) .no] H (.fn 328 [.ptr H.length 0,.ptr (H.length+1) 0]) (H++[some (.cells [.vs (IL w) .no]),some (.cells [.vs (IL L) .no])])):=by refine ee fF.adB (aah rfl) ?_;simp
noncomputable def gZ(w:List af)(live:Nat)(tries:Int):Option (List af) :=
 match tL (oX w live tries) (qv w (fB w)) 0 with
 | some p=>if tries<=p.1 then none else some p.2
 | none=>none
def zqC{hit:Nat->List af->Bool}{p:Nat×List af}:∀{l:List (List af)} {k:Nat},tL hit l k=some p->k<=p.1/\l[p.1-k]?=some p.2/\hit p.1 p.2=true
 | [],_,h=>by cases h
 | c::l,k,h=>by
  rw[tL] at h;split at h
  ·rename_i a;cases h;exact⟨aaF _,ir,a⟩
  ·obtain⟨e,b,d⟩:=zqC h;refine⟨an,?_,d⟩;rw[show p.1-k=(p.1-(k+1))+1 by omega];exact b
def zEQ[dR G][dx G][az G][ay G][bQ G][dw G][cT G][aN G][cU G][cV G][bW G][cd G][bS G][ar G][v:dS G][cu G][aK G][cZ G][bX G][cN G][eS G][fT G][fE G][fF G][iJ G]
  (w:List af) (live:Nat) (tries:Int) (m:w.length<=maxLen) (h:∀ x∈w,x.k<4294967296) (g:aW w=true) (t:live<4294967296) :
  FP G 333 [FL w,.int .u32 live,.int .i64 tries] (.a_ [FL ((gZ w live tries).getD []),.bool (gZ w live tries).isSome,.int .i64 0]):=by
 haveI:ja G:=v.toja
 refine bD iJ.adC (aah rfl) ?_;have j:=zyi (G:=G) w m h g (zw0 h g);have n:=zqB h g;have y:=zuv g
 have z:w.length<=32:=by simp only[aW,aad,decide_eq_true_eq] at g;exact g.1
 have a:gZ w live tries=gZ w live tries:=rfl
 conv at a=>rhs;unfold gZ
 change FP G 330 [FL w] (.a_ [FL (fB w),.int .i64 0]) at j;generalize fB w=L at j n y a;simp only[FL] at j;simp[FL];refine ax j ?_;simp;refine vb (zEP _ w L) ir ?_;simp
 have e:=zzN (G:=G) (H:=FH w L live tries [] false .ready) Ra (id:=8) (i1:=6) (i2:=7) (w:=w) (L:=L) (tk:=.no) an an rfl rfl (show 8<9 by decide) (hit:=oX w live tries)
  (H':=fun k c=>if tries<=(k:Int) then FH w L live tries [] false (.done (.exit 0)) else FH w L live tries c true (.done .ret))
  (fun k c l f X q=>by
   have i:=aaq l;have:=zuu (G:=G) (L:=L) (tries:=tries) k c m h t (by have:=Q8 i;simp only[maxLen];omega) (fun x r=>n x (Q9 i x r)) X q;rw[f] at this;simp only[oX,aa9,decide_eq_false_iff_not] at f;rw[if_neg f.1,if_neg f.2] at this
   exact this)
  (fun k c l f X q=>by
   have i:=aaq l;have:=zuu (G:=G) (L:=L) (tries:=tries) k c m h t (by have:=Q8 i;simp only[maxLen];omega) (fun x r=>n x (Q9 i x r)) X q;rw[f] at this;simp only[oX,abE,decide_eq_true_eq] at f
   by_cases d:tries<=(k:Int)
   ·rw[if_pos d] at this |-;exact this
   ·rw[if_neg d,if_pos (f.resolve_left d)] at this;rw[if_neg d]
    exact this)
  (fun k c l f=>by
   by_cases d:tries<=(k:Int)
   ·rw[if_pos d];exact⟨(Ra (w:=w) (L:=L) (live:=live) (tries:=tries) (o:=[]) (b:=false) (st:=.done (.exit 0))).self,rfl⟩
   ·rw[if_neg d];exact⟨(Ra (w:=w) (L:=L) (live:=live) (tries:=tries) (o:=c) (b:=true) (st:=.done .ret)).self,rfl⟩)
 have s:∀ o b st,aj 8 (FH w L live tries o b st)=[some (.cells [.vs (IL w) .no]),some (.cells [.int .u32 live]),some (.cells [.int .i64 tries]),some (.cells [.vs (IL o) .full]),some (.cells [.bool b]),some (.cells [.int .i64 0]),some (.cells [.vs (IL w) .no]),some (.cells [.vs (IL L) .no])]:=fun o b st=>by
  simp[aj,FH,aw.cl,aX,V.cl,Tk.cl]
 cases u:tL (oX w live tries) (qv w L) 0 with
 | none =>
  rw[u] at e a;simp only[] at e a;refine Ml e rfl (.inl ⟨rfl,rfl⟩) ?_
  simp[s,a]
 | some p =>
  rw[u] at e a;simp only[] at e a
  by_cases d:tries<=(p.1:Int)
  ·rw[if_pos d] at e a;refine Ml (x:=.exit 0) e rfl (.inr ⟨rfl,ir⟩) ?_;simp[s,a]
  ·rw[if_neg d] at e a;refine Ml (x:=.ret) e rfl (.inr ⟨rfl,ir⟩) ?_;simp[s,a]
open Go Go.RowKit
variable {G:aM}
section
variable {w L o:List af} {q:Int} {b:Bool} {st:Al}
end
def VZ:Da:=⟨0,0,0,aP 6⟩
def zzQ:VZ.ok:=⟨by decide,by decide,by decide,by simp[VZ],fun w a=>by
 simp only[VZ,aP,acj] at a
 omega⟩
open Go Go.RowKit
variable {G:aM}
section
variable {w:List af} {live:Nat} {tries:Int}
def zGp{k:Nat}{c:List af}(a:(qv w (fB w))[k]?=some c)(e:(k:Int)<tries)(b:(eo w c live).1=0)
  (h:∀ j<k,∀ c,(qv w (fB w))[j]?=some c->(eo w c live).1≠0):gZ w live tries=some c:=by
 have d:=VN (hit:=oX w live tries) (k:=0) a (by simp[oX,b]) (fun i hi c a=>by
  have:=h i hi c a;simp only[oX,aa5,aa9,decide_eq_false_iff_not]
  exact⟨an,this⟩)
 unfold gZ;rw[d,aa5];simp only[];rw[if_neg an]
def znC{hit:Nat->List af->Bool}{p:Nat×List af}:∀{l:List (List af)} {k:Nat},tL hit l k=some p->∀ i,k+i<p.1->∀ c,l[i]?=some c->hit (k+i) c=false
 | [],_,h=>by cases h
 | d::l,k,h=>by
  rw[tL] at h;split at h
  ·cases h;intro i hi;omega
  ·rename_i b;intro i hi c a
   cases i with
   | zero =>
    simp only[aaU,abb.injEq] at a;subst a
    simpa using b
   | succ i =>
    rw[show k+(i+1)=k+1+i by omega];exact znC h i an c (by simpa using a)
def zB4{c:List af}(h:gZ w live tries=some c):∃ k:Nat,(k:Int)<tries/\(qv w (fB w))[k]?=some c/\(eo w c live).1=0/\∀ j<k,∀ c,(qv w (fB w))[j]?=some c->(eo w c live).1≠0:=by
 unfold gZ at h;split at h
 ·rename_i p a;obtain⟨_,b,d⟩:=zqC a;have e:=znC a;rw[Nat.sub_zero] at b;split at h
  ·cases h
  ·rename_i f;cases h;simp only[oX,abE,decide_eq_true_eq] at d;refine⟨p.1,an,b,d.resolve_left f,fun j i c g=>?_⟩;have:=e j an c g;simp only[oX,aa5,aa9,decide_eq_false_iff_not] at this;exact this.2
 ·cases h
end
def zER{l:List af}{x:af}(a:∀ y∈l,aW [y]=true):∀ y∈qu l x,aW [y]=true:=by
 unfold qu;split
 ·exact a
 ·split
  ·rename_i b;intro y c
   rcases aaD.1 c with h|h
   ·exact a y h
   ·rw[aaI.1 h];exact b
  ·exact a
def Rc:∀{xs l:List af},(∀ y∈l,aW [y]=true)->∀ y∈fO l xs,aW [y]=true
 | [],_,a=>a
 | x::xs,l,a=>by
  show ∀ y∈fO (qu l x) xs,aW [y]=true;exact Rc (zER a)
def zwi{w:List af}{a:List Nat}:∀ y∈Fp w a,mK y=true:=by intro y b;have:=Rc (Rc (Rc (l:=[]) ir)) y b;simpa[aW] using this
def zB5{w L c:List af}(b:∀ y∈L,mK y=true)(a:c∈qv w L)(f:w.length<=32):aW c=true:=by have g:=Q8 a;have d:=Q9 a;simp only[aW,aad,decide_eq_true_eq,aaY];exact⟨an,fun x e=>b x (d x e)⟩
open Go Go.RowKit
variable {G:aM}
def zB6{v w:List af}{live:Nat}(a:aW v=true)(b:aW w=true):decide ((eo v w live).1=0)=u6 (aH [] v).p (aH (aH [] v).L w).p (aH [] v).st (aH (aH [] v).L w).st live:=by
 rcases l9 (live:=live) a b with⟨e,h⟩|⟨r,e,_,_,h⟩|⟨e,_,h⟩
 ·rw[e,h];rfl
 ·rw[e,h];rfl
 ·rw[e,h];rfl
def sA(a:Nat):St:=⟨a,0,aP 16⟩
def zLo{a:Nat}(h:a<4294967296):(sA a).ok:=⟨h,show(0:Nat)<4294967296 by decide,by simp[sA],fun w b=>by
 simp only[sA,aP,acj] at b
 omega⟩
def Prd(f:List af)(i:Nat):Prop:=∃ j x o,f[j]?=some x/\o∈aU x/\j+1+o=i
def p9(f:List af):Prop:=∀ i,0<i->i<f.length->Prd f i
def MG(f:List af)(m:List Bool):Prop:=∀ i,m[i]?=some true->0<i->∃ j x o,f[j]?=some x/\m[j]?=some true/\o∈aU x/\j+1+o=i
def zw1:∀{f:List af} {m:List Bool} {j:Nat} {x:af} {o:Nat},lH f m->f[j]?=some x->m[j]?=some true->o∈aU x->m[j+1+o]?=some true
 | [],_,_,_,_,_,h,_,_=>by simp at h
 | _::_,[],_,_,_,h,_,_,_=>by cases h
 | y::f,b::m,0,x,o,h,a,c,d=>by
  simp only[aaU,abb.injEq] at a c;subst a;rw[show 0+1+o=o+1 by omega,aaH]
  exact h.1 c o d
 | y::f,b::m,j+1,x,o,h,a,c,d=>by
  rw[show j+1+1+o=(j+1+o)+1 by omega,aaH];exact zw1 h.2 (by simpa using a) (by simpa using c) d
def zES{f:List af}{m:List Bool}(c:lH f m)(d:m[0]?=some true)(g:p9 f):∀ b∈m,b=true:=by
 have h:=Fk c
 have a:∀ n i,i<=n->i<f.length->m[i]?=some true:=fun n=>by
  induction n with
  | zero =>
   intro i hi e
   obtain rfl:i=0:=by omega
   exact d
  | succ n k =>
   intro i hi e
   by_cases l:i=0
   ·subst l;exact d
   ·obtain⟨j,x,o,p,q,r⟩:=g i an e;rw[<-r];exact zw1 c p (k j an an) q
 intro b s;obtain⟨i,hi⟩:=ab7 s;have:=a i i (aaF _) (by rw[h];exact(aaa.1 hi).1);rw[hi] at this;cases this;rfl
def zzR{f:List af}{m:List Bool}(a:dB f=true)(b:lH f m)(c:m[0]?=some true)(d:p9 f):dJ f m=f:=by refine zwZ (Fk b) (zES b c d) ?_;simp only[dB,aad] at a;exact a.1.2
def V4(m:List Bool)(i o:Nat):bP m (i+o)=bP m i+bP (m.drop i) o:=by simp only[bP];rw[List.take_add,aci]
def zB7{m:List Bool}{i:Nat}(h:m[i]?=some true):bP m (i+1)=bP m i+1:=by rw[V4];have a:=(aaa.1 h);obtain⟨b,c⟩:=a;have:=aaJ b;rw[c] at this;rw[this];simp[bP]
def V5:∀(m:List Bool) (p:Nat),p<m.countP id->∃ i,m[i]?=some true/\bP m i=p
 | [],p,h=>by simp at h
 | true::m,0,_=>⟨0,rfl,Hl _⟩
 | true::m,p+1,h=>by
  obtain⟨i,a,b⟩:=V5 m p (by simpa using h)
  exact⟨i+1,by simpa using a,by rw[VA,b];simp;omega⟩
 | false::m,p,h=>by
  obtain⟨i,a,b⟩:=V5 m p (by simpa using h);exact⟨i+1,by simpa using a,by rw[VA,b];simp⟩
def zGq{f:List af}{m:List Bool}{i:Nat}{x:af}(d:f.length=m.length)(e:f[i]?=some x)(g:m[i]?=some true):(dJ f m)[bP m i]?=some (kK (m.drop (i+1)) x):=by
 have a:=Q0 f m i d;obtain⟨h,j⟩:=aaa.1 e;obtain⟨k,l⟩:=aaa.1 g;have b:=aaJ h;have c:=aaJ k;rw[j] at b;rw[l] at c;rw[b,c,dJ] at a
 have n:((dJ f m).drop (bP m i))[0]?=some (kK (m.drop (i+1)) x):=by rw[a];rfl
 rwa[aaQ,abt] at n
def zB8(m:List Bool){x:af}{o:Nat}(h:o∈aU x):bP m o∈aU (kK m x):=by
 unfold aU at h |-;rw[Hm];split at h
 ·cases h
 rename_i c;rw[if_neg c];split at h
 ·rename_i a;rw[if_pos a];simp only[aaI] at h;subst h;simp[kK,a]
 ·rename_i a;rw[if_neg a];split at h
  ·rename_i b;rw[if_pos b];simp only[aaG,aaK,or_false] at h
   have d:kK m x={ x with jt:=(bP m x.jt.toNat:Nat),jf:=(bP m x.jf.toNat:Nat) }:=by rw[kK,if_neg a,if_pos b]
   rw[d]
   rcases h with rfl|rfl<;>simp
  ·rename_i b;rw[if_neg b];simp only[aaI] at h |-;subst h;exact Hl _
def zB9{f:List af}{m:List Bool}(e:lH f m)(g:MG f m):p9 (dJ f m):=by
 have a:=Fk e;intro p r b;rw[Hn f m a] at b;obtain⟨i,k,c⟩:=V5 m p b
 have hi:0<i:=by
  rcases Nat.eq_zero_or_pos i with rfl|h
  ·rw[Hl] at c;omega
  ·exact h
 obtain⟨j,x,o,l,d,n,q⟩:=g i k hi;refine⟨bP m j,_,_,zGq a l d,zB8 (m.drop (j+1)) n,?_⟩;rw[<-c,<-q,V4,zB7 d]
def vi(a e b i:Nat){x:af}{o:Nat}(h:o∈aU x):dV a e b i o∈aU (dW a e b i x)\/o=0/\0∈aU (dW a e b i x):=by
 unfold aU at h |-;rw[JY];split at h
 ·cases h
 rename_i f;rw[if_neg f];split at h
 ·rename_i c;rw[if_pos c];simp only[aaI] at h;subst h;simp[dW,c]
 ·rename_i c;rw[if_neg c];split at h
  ·rename_i d;rw[if_pos d];left;simp only[aaG,aaK,or_false] at h
   have g:dW a e b i x={ x with jt:=(dV a e b i x.jt.toNat:Nat),jf:=(dV a e b i x.jf.toNat:Nat) }:=by rw[dW,if_neg c,if_pos d]
   rw[g]
   rcases h with rfl|rfl<;>simp
  ·rename_i d;rw[if_neg d];simp only[aaI] at h |-;exact .inr ⟨h,trivial⟩
def zCa{f w:List af}{a n:Nat}(M:dB f=true)(u:r7 f a n=true)(N:0<n)(C:a+n<=f.length)(D:aW w=true)(E:w.length<=n)(v:p9 f):p9 (eU f a n w):=by
 have F:=QY (w:=w) C
 have e:∀ j x,j<a->f[j]?=some x->(eU f a n w)[j]?=some (dW a (a+n) (n-w.length) j x):=fun j x b c=>by
  have:=congrArg (fun l=>l[0]?) (zpf (w:=w) (n:=n) b c);simpa[aaQ] using this
 have G:∀ j x,a+n<=j->f[j]?=some x->(eU f a n w)[j-(n-w.length)]?=some x:=fun j x b c=>by
  have:=congrArg (fun l=>l[0]?) (zpg (f:=f) (w:=w) (a:=a) E b);simp only[aaQ,abt] at this;rw[this];exact c
 have k:∀ j,j<w.length->(eU f a n w)[a+j]?=w[j]?:=fun j b=>by
  have:=congrArg (fun l=>l[j]?) (Vz f w a n);simp only[aaQ] at this;rw[this,aal b]
 have H:∀ x∈w,0∈aU x:=fun x c=>by
  obtain⟨m,p,q,r⟩:=MB (Hg D x c);simp[aU,gL,m,p,q,r]
 have ahead:∀ j x o,j<a->f[j]?=some x->o∈aU x->j+1+o<=a->Prd (eU f a n w) (j+1+o):=fun j x o b c I J=>by
  refine⟨j,_,o,e j x b c,?_,rfl⟩
  have s:dV a (a+n) (n-w.length) j o=o:=by unfold dV;rw[if_neg an]
  rcases vi a (a+n) (n-w.length) j I with h|⟨h,y⟩
  ·rw[s] at h;exact h
  ·rw[h];exact y
 intro i hi K;rw[F] at K
 by_cases O:i<=a
 ·obtain⟨j,x,o,g,d,z⟩:=v i hi an;rw[<-z];exact ahead j x o an g d an
 by_cases P:i<=a+w.length
 ·have t:i-a-1<w.length:=an
  have A:=k (i-a-1) t;rw[aae t] at A;exact⟨a+(i-a-1),_,0,A,H _ (aaW t),an⟩
 ·obtain⟨j,x,o,g,d,z⟩:=v (i+(n-w.length)) an an
  by_cases B:j<a
  ·refine⟨j,_,o-(n-w.length),e j x B g,?_,an⟩
   have s:dV a (a+n) (n-w.length) j o=o-(n-w.length):=by unfold dV;rw[if_pos ⟨B,an⟩]
   rcases vi a (a+n) (n-w.length) j d with h|⟨h,y⟩
   ·rw[s] at h;exact h
   ·omega
  by_cases Q:j<a+n
  ·exfalso
   have L:x∈(f.drop a).take n:=by refine aaq (i:=j-a) ?_;rw[ach,if_pos an,aaQ,show a+(j-a)=j by omega];exact g
   simp only[r7,aad] at u;obtain⟨m,p,q,r⟩:=MB (Hg u.1 x L)
   have:aU x=[0]:=by simp[aU,gL,m,p,q,r]
   rw[this] at d;simp only[aaI] at d;omega
  ·exact⟨j-(n-w.length),x,o,G j x an g,d,an⟩
def zzS{v w:List af}{live:Nat}(c:∀ x∈v,x.k<4294967296)(d:∀ x∈w,x.k<4294967296)(e:aW v=true)(f:aW w=true)
  (h:u6 (aH [] v).p (aH (aH [] v).L w).p (aH [] v).st (aH (aH [] v).L w).st live=true):j4 v v.length=j4 w w.length:=by
 have b:=(U9.1 h).2;have a:(sA 0).ok:=zLo (by decide);have g:=An Inv.nil v c;have i:=(QO Inv.nil a zzQ c e);have j:=QO g.ext.inv a zzQ d f;have l:=i.num;have m:=j.num;rw[<-l,<-m,b]
def V6{w:List af}:j4 w w.length=0↔∀ x∈w,x.op≠60:=by rw[j4,aaX,List.countP_eq_zero];simp
def zzT:∀ a b:List UInt8,Op.bytesLess a b=false->a≠b->Op.bytesLess b a=true
 | [],[],_,h=>absurd rfl h
 | [],_::_,h,_=>by simp[Op.bytesLess] at h
 | _::_,[],_,_=>by simp[Op.bytesLess]
 | x::a,y::b,h,d=>by
  simp only[Op.bytesLess,aa9,ab1,decide_eq_false_iff_not,beq_eq_false_iff_ne] at h;simp only[Op.bytesLess,abE,aad,decide_eq_true_eq,beq_iff_eq]
  by_cases e:x=y
  ·subst e;exact .inr ⟨rfl,zzT a b (h.2.resolve_left (fun h=>h rfl)) (fun e=>d (by rw[e]))⟩
  ·refine .inl ?_;have c:=h.1;rw[UInt8.not_lt] at c;exact UInt8.lt_of_le_of_ne c (fun e'=>e e'.symm)
def zuw:∀ a b c:List UInt8,Op.bytesLess a b=true->Op.bytesLess b c=true->Op.bytesLess a c=true
 | _,[],_,h,_=>by cases ‹List UInt8›<;>simp[Op.bytesLess] at h
 | _,_::_,[],_,h=>by simp[Op.bytesLess] at h
 | [],_::_,_::_,_,_=>by simp[Op.bytesLess]
 | x::a,y::b,z::c,e,d=>by
  simp only[Op.bytesLess,abE,aad,decide_eq_true_eq,beq_iff_eq] at e d |-
  rcases e with e|⟨rfl,e⟩
  ·rcases d with d|⟨rfl,d⟩
   ·exact .inl (UInt8.lt_trans e d)
   ·exact .inl e
  ·rcases d with d|⟨rfl,d⟩
   ·exact .inl d
   ·exact .inr ⟨rfl,zuw a b c e d⟩
structure TR where
 fr:List af
 to:List af
 lv:Nat
def Re(k:Nat):List UInt8:=(aay 4).map fun i=>aaZ (k/2^(8*i)%256)
def V7(x:af):List UInt8:=[aaZ (x.op.toNat%256),aaZ (x.op.toNat/256%256),aaZ (x.jt.toNat%256),aaZ (x.jf.toNat%256)]++Re x.k
def DA(w:List af):List UInt8:=w.flatMap V7
def TR.by(r:TR):List UInt8:=Re r.lv++([aaZ (r.fr.length%256),aaZ (r.to.length%256)]++(DA r.fr++DA r.to))
def TR.may(r:TR):Bool:=aW r.fr&&aW r.to&&decide (r.to.length<r.fr.length)&&decide (r.lv<262144)
def wO(a b:TR):Bool:=Op.bytesLess a.by b.by
def uJ:List TR->Bool
 | []=>true
 | [_]=>true
 | a::b::l=>wO a b&&uJ (b::l)
def ef(t:List TR):Bool:=t.all TR.may&&uJ t&&decide (t.length<=64)
def pH(t:List TR)(r:TR):Nat:=(t.takeWhile fun y=>wO y r).length
def qS(t:List TR)(r:TR):Bool:=match t[pH t r]? with
 | some y=>decide (y.by=r.by)
 | none=>false
def qw(t:List TR)(r:TR):List TR×Int :=
 if(ef t&&r.may)=true then if qS t r=true then(t,0) else if t.length=64 then(t,3) else(t.take (pH t r)++r::t.drop (pH t r),0)
 else(t,1)
def AD(t:List TR)(w:List af)(live:Nat):Option (List af) :=
 if ef t=true then(t.find? fun r=>decide (r.fr=w)&&decide (live%262144=r.lv)).map TR.to else none
def zzU{a:TR}{t:List TR}(h:uJ (a::t)=true):uJ t=true:=by
 cases t with
 | nil=>rfl
 | cons b l=>simp only[uJ,aad] at h;exact h.2
def V8{a:TR}:∀{t:List TR},uJ (a::t)=true->∀ b∈t,wO a b=true
 | [],_,b,hb=>by cases hb
 | c::t,h,b,hb=>by
  simp only[uJ,aad] at h
  rcases aaG.1 hb with rfl|hb
  ·exact h.1
  ·exact zuw _ _ _ h.1 (V8 h.2 b hb)
def zsP{a:TR}{t:List TR}(h:∀ b,t.head?=some b->wO a b=true)(c:uJ t=true):uJ (a::t)=true:=by
 cases t with
 | nil=>rfl
 | cons b l =>
  simp only[uJ,aad];exact⟨h b rfl,c⟩
def zux:∀{t:List TR} {r:TR},uJ t=true->qS t r=false->uJ (t.take (pH t r)++r::t.drop (pH t r))=true
 | [],r,_,_=>by simp[pH,uJ]
 | a::t,r,h,c=>by
  cases e:wO a r with
  | true =>
   have d:pH (a::t) r=pH t r+1:=by simp[pH,e]
   have g:qS t r=false:=by rw[qS,d,aaH] at c;exact c
   have i:=zux (zzU h) g;rw[d,List.take_succ_cons,abl,acp];refine zsP (fun b f=>?_) i;have hm:b∈t.take (pH t r)++r::t.drop (pH t r):=List.mem_of_mem_head? f;rw[aaD,aaG] at hm
   rcases hm with hm|rfl|hm
   ·exact V8 h b (abk hm)
   ·exact e
   ·exact V8 h b (aaL hm)
  | false =>
   have d:pH (a::t) r=0:=by simp[pH,e]
   rw[d,List.take_zero,ab4,List.nil_append];refine zsP (fun b f=>?_) h;simp only[List.head?_cons,abb.injEq] at f;subst f;rw[qS,d] at c;simp only[aaU,decide_eq_false_iff_not] at c;exact zzT _ _ e c
def zuy(t:List TR)(r:TR):pH t r<=t.length:=by unfold pH;exact(List.takeWhile_prefix _).length_le
def zuz{t:List TR}{r:TR}(d:ef t=true)(e:r.may=true):ef (qw t r).1=true/\t.length<=(qw t r).1.length/\(qw t r).1.length<=t.length+1/\(∀ x∈(qw t r).1,x∈t\/x=r):=by
 unfold qw;rw[d,e,if_pos (show(true&&true)=true from rfl)];have c:ef t=true/\t.length<=t.length/\t.length<=t.length+1/\(∀ x∈t,x∈t\/x=r):=⟨d,aaF _,an,fun x b=>.inl b⟩;split
 ·exact c
 rename_i i;split
 ·exact c
 rename_i k;have l:=zuy t r;simp only[ef,aad,decide_eq_true_eq] at d;obtain⟨⟨f,j⟩,m⟩:=d
 have a:(t.take (pH t r)++r::t.drop (pH t r)).length=t.length+1:=by simp only[aan,aau,aav,aa4];omega
 have g:∀ x∈t.take (pH t r)++r::t.drop (pH t r),x∈t\/x=r:=fun x b=>by
  rw[aaD,aaG] at b
  rcases b with b|rfl|b
  ·exact .inl (abk b)
  ·exact .inr rfl
  ·exact .inl (aaL b)
 refine⟨?_,by rw[a];omega,by rw[a];exact aaF _,g⟩;simp only[ef,aad,decide_eq_true_eq];refine⟨⟨?_,zux j (by simpa using i)⟩,by rw[a];omega⟩;rw[aaY] at f |-;intro x b
 rcases g x b with h|rfl
 ·exact f x h
 ·exact e
def J8(a:Nat):fV .u8 (a:Int)=((a%256:Nat):Int):=by unfold fV;simp[IntKind.wrap,IntKind.bits,IntKind.signed]
def m9(x:af):List Nat:=[x.op.toNat%256,x.op.toNat/256%256,x.jt.toNat%256,x.jf.toNat%256]++gn x.k 4
def zuA(x:af):(m9 x).length=8:=by simp[m9,gn]
def kM(w:List af):List Nat:=w.flatMap m9
def Ct:∀ w:List af,(kM w).length=8*w.length
 | []=>rfl
 | x::w=>by rw[kM,aa8,aan,zuA,<-kM,Ct w,aau];omega
def zyj(w:List af)(x:af):kM (w++[x])=kM w++m9 x:=by simp[kM]
def zuB(w:List af):DA w=(kM w).map aaZ:=by
 rw[DA,kM,List.map_flatMap]
 congr 1
def zsQ{x:af}(h:jX x=true):(0<=x.op/\x.op<=255)/\(0<=x.jt/\x.jt<=255)/\0<=x.jf/\x.jf<=255:=by
 cases a:rN x.op with
 | none=>simp[jX,a] at h
 | some r =>
  obtain⟨c,d⟩:=MA a
  have e:∀ r∈v9,0<=r.1/\r.1<=255:=by decide
  have b:=e r d;rw[c] at b;refine⟨b,?_⟩;rw[jX,a] at h;simp only[aad] at h;obtain⟨_,h⟩:=h;split at h
  ·simp only[decide_eq_true_eq] at h;omega
  ·simp only[decide_eq_true_eq] at h;omega
def zCb[az G][ej G](w:List af)(l:w.length<=4096)(m:∀ x∈w,x.k<4294967296)(d:∀ x∈w,jX x=true):FP G 350 [FL w] (.int .i64 0):=by
 refine bD ej.adD (aah rfl) ?_;have e:((4096:Int)<(w.length:Int))=False:=eq_false an;simp[FL,e];refine aQ w.length (fun i=>[(8,FL w),(9,.int .i64 w.length),(10,.int .i64 i)]) (fun _=>[]) (fun _=>True) ?_ ?_
 ·simp[av,aj,FL]
 intro i hi _
 by_cases a:i<w.length
 ·obtain⟨x,b⟩:∃ x,x=w[i]:=⟨_,rfl⟩;have c:=tF a;rw[<-b] at c;have f:=d x (by rw[b];exact aaW a);have g:x.cs.length=4:=rfl;have h:x.cs.take 4=x.cs:=rfl;simp(disch:=omega)[bM,FL,c,g,h];refine ax (J9 x) ?_;simp(disch:=omega)[f,a,bH,av,aj,-aab]
 ·have j:i=w.length:=an
  subst j;simp
def V9[az G][ej G](w:List af)(z:w.length<=4096)(m:∀ x∈w,x.k<4294967296)(n:∀ x∈w,jX x=true):FP G 351 [FL w] (.a_ [.vs (ak .u8 (kM w)) .no,.int .i64 0]):=by
 refine bD ej.adE (aah rfl) ?_;have A:=zCb (G:=G) w z m n;simp[FL];refine ax A ?_;simp;obtain⟨T,a⟩:∃ T:Nat->List Nat,∀ j,T j=kM (w.take j):=⟨_,fun _=>rfl⟩
 have B:T 0=[]:=by rw[a];rfl
 refine aQ w.length (fun i=>[(5,.vs (ak .u8 (T i)) (.own 0)),(14,FL w),(15,.int .i64 w.length),(16,.int .i64 i)]) (fun i=>[some (.zone (T i).length)]) (fun _=>True) ?_ ?_
 ·simp[av,aj,FL,B]
 intro i hi _
 by_cases b:i<w.length
 ·obtain⟨x,e⟩:∃ x,x=w[i]:=⟨_,rfl⟩;have p:=tF b;rw[<-e] at p;have O:x.k<4294967296:=m x (by rw[e];exact aaW b);obtain⟨P,Q,R⟩:=zsQ (n x (by rw[e];exact aaW b))
  have C:T (i+1)=T i++m9 x:=by rw[a,a,aaM,aae b,acg,zyj,e]
  have q:(T i).length=8*i:=by rw[a,Ct,aav];omega
  obtain⟨o,r⟩:∃ o:Nat,x.op=o:=⟨x.op.toNat,an⟩;obtain⟨c,s⟩:∃ o:Nat,x.jt=o:=⟨x.jt.toNat,an⟩;obtain⟨d,t⟩:∃ o:Nat,x.jf=o:=⟨x.jf.toNat,an⟩;obtain⟨k,u⟩:∃ k,x.k=k:=⟨_,rfl⟩
  have D:x.cs=[.int .i64 o,.int .i64 c,.int .i64 d,.int .u32 k]:=by rw[af.cs,r,s,t,u]
  have E:m9 x=[o%256,o/256%256,c%256,d%256]++gn k 4:=by rw[m9,r,s,t,u];rfl
  have f:jR .i64 (o:Int) 8=((o/256:Nat):Int):=zW (j:=8) (by decide);obtain⟨U,g⟩:∃ U:List Nat,U=T i++[o%256,o/256%256,c%256,d%256]:=⟨_,rfl⟩
  have v:U.length=8*i+4:=by rw[g,aan,q];rfl
  have F:ak .u8 (T i)++[[V.int .u8 (o%256:Nat)],[V.int .u8 (o/256%256:Nat)],[V.int .u8 (c%256:Nat)],[V.int .u8 (d%256:Nat)]]=ak .u8 U:=by rw[g];simp[ak]
  simp(disch:=omega)[bM,FL,p,D,J8,f,F,q,aC,-aab,-abA,-abh]
  refine aQ 4 (fun j=>[(5,.vs (ak .u8 (U++gn k j)) (.own 0)),(7,.ptr 1 0),(14,FL w),(15,.int .i64 w.length),(16,.int .i64 i),(36,.int .i64 j)])
   (fun j=>[some (.zone (8*i+4+j)),some (.cells [.int .i64 o,.int .i64 c,.int .i64 d,.int .u32 k]),none]) (fun _=>True) ?_ ?_
  ·have H:gn k 0=[]:=rfl;simp[av,aj,FL,H]
  intro j S _
  by_cases h:j<4
  ·have I:eO .i64 8 (j:Int)=((8*j:Nat):Int):=by unfold eO;exact IntWalk.i64_in _ ⟨an,an⟩
   have J:jR .u32 (k:Int) ((8*j:Nat):Int)=((k/256^j:Nat):Int):=by rw[Ae an,acC]
   have K:(((8*j:Nat):Int)<0)=False:=eq_false an
   have L:ak .u8 (U++gn k j)++[[V.int .u8 (k/256^j%256:Nat)]]=ak .u8 (U++gn k (j+1)):=by rw[zAD];simp[ak]
   have M:(U++gn k j).length=8*i+4+j:=by rw[aan,v,zve]
   simp(disch:=omega)[bM,K,I,J,J8,L,M,aC,bH,h,av,aj,FL,-aab,-abn,-abA,-abh,-acu];omega
  ·have l:j=4:=an
   subst l
   have y:U++gn k 4=T (i+1):=by rw[C,E,g,aat]
   have N:(T (i+1)).length=8*i+4+4:=by rw[<-y,aan,v,zve]
   simp(disch:=omega)[y,N,b,bH,av,aj,FL,-aab]
 ·have l:i=w.length:=an
  subst l
  have:T w.length=kM w:=by rw[a,aaX]
  simp[this]
def Wa(k i:Nat)(hi:i<4)(b:k<4294967296):uK .u32 ((k%256^i:Nat):Int) (jc .u32 ((k/256^i%256:Nat):Int) ((8*i:Nat):Int))=((k%256^(i+1):Nat):Int):=by
 rw[Mi an]
 have e:256^i=2^(8*i):=by rw[acC]
 have c:k/256^i%256<256:=abv _ (by decide)
 have a:k/256^i%256*2^(8*i)<4294967296:=by
  have:i=0\/i=1\/i=2\/i=3:=an
  rcases this with rfl|rfl|rfl|rfl<;>simp at c |-<;>omega
 have d:k%256^i<2^32:=acb (Nat.mod_le _ _) b;rw[acs a,yW d a]
 have f:k%256^i<2^(8*i):=by rw[e];exact abv _ (Nat.two_pow_pos _)
 rw[Nat.mul_comm,Nat.or_comm,<-Nat.two_pow_add_eq_or_of_lt f]
 congr 1
 rw[Nat.pow_succ,Nat.mod_mul,e];omega
def zzV[az G][ig G](f:List af)(hl:f.length<=4096)(Z:∀ x∈f,x.k<4294967296)(A:∀ x∈f,jX x=true):FP G 429 [.vs (ak .u8 (kM f)) .no] (.a_ [FL f,.int .i64 0]):=by
 refine bD ig.adF (aah rfl) ?_;have hn:=Ct f;obtain⟨N,hN⟩:∃ N,N=(kM f).length:=⟨_,rfl⟩;have g1:(32768<(N:Int))=False:=eq_false an
 have g2:mV (N:Int) 8=0:=by have:=Cl (a:=N) (b:=8);rw[show((8:Nat):Int)=8 from rfl] at this;rw[this];omega
 have C:(ak .u8 (kM f)).length=N:=by rw[Qa,hN]
 obtain⟨B,p⟩:∃ B:Nat->List Nat,∀ k,B k=kM (f.drop k):=⟨_,fun _=>rfl⟩
 have Cq:B 0=kM f:=by rw[p,ab4]
 have Dz:∀ k,(B k).length=8*(f.length-k):=fun k=>by rw[p,Ct,aa4]
 rw[<-Cq] at C |-
 have r:(B 0).length=N:=by rw[<-Qa .u8,C]
 simp[r,g1,g2];refine aQ f.length (fun k=>[(0,.vs (ak .u8 (B k)) .no),(4,.vs (IL (f.take k)) (.own 0))]) (fun k=>[some (.zone k)]) (fun _=>True) ?_ ?_
 ·simp[av,aj]
 intro k ll _;have jk:=Dz k
 by_cases s:k<f.length
 ·obtain⟨x,D⟩:∃ x,x=f[k]:=⟨_,rfl⟩
  have E:f[k]?=some x:=by rw[aae s,D]
  have t:=aaq E;have F:=Z x t;obtain⟨⟨o1,o2⟩,⟨o3,o4⟩,o5,o6⟩:=zsQ (A x t);obtain⟨d,H⟩:∃ n:Nat,x.op=n:=⟨x.op.toNat,an⟩;obtain⟨e,I⟩:∃ n:Nat,x.jt=n:=⟨x.jt.toNat,an⟩;obtain⟨g,J⟩:∃ n:Nat,x.jf=n:=⟨x.jf.toNat,an⟩
  have h:B k=m9 x++B (k+1):=by rw[p,p,aaJ s,<-D,kM,aa8];rfl
  have j:m9 x=[d,0,e,g,x.k%256,x.k/256%256,x.k/256^2%256,x.k/256^3%256]:=by simp[m9,gn,aay,aay.loop,H,I,J];omega
  have K:(B k)[0]?=some d:=by rw[h,j];rfl
  have L:(B k)[1]?=some 0:=by rw[h,j];rfl
  have M:(B k)[2]?=some e:=by rw[h,j];rfl
  have O:(B k)[3]?=some g:=by rw[h,j];rfl
  have bk:∀ i,i<4->(B k)[4+i]?=some (x.k/256^i%256):=by
   intro i hi;rw[h,j]
   have:i=0\/i=1\/i=2\/i=3:=an
   rcases this with rfl|rfl|rfl|rfl<;>simp
  have P:=(aaa.1 K).2;have Q:=(aaa.1 L).2;have R:=(aaa.1 M).2;have S:=(aaa.1 O).2;have kq:(0<(B k).length)=True:=eq_true an
  have u:(B k).drop 8=B (k+1):=by rw[h,abD (zuA x)]
  have c:∀ b:Nat,b<256->fV .i64 (b:Int)=(b:Int):=fun b l=>IntWalk.i64_in _ ⟨an,an⟩;have MK:∀ b:Nat,b<256->fV .u32 (b:Int)=(b:Int):=fun b l=>IntWalk.u32_in _ ⟨an,an⟩;have T:=c d an;have U:=c e an;have V:=c g an
  have W:jc .i64 0 8=0:=by decide
  have cz:fV .i64 0=0:=by decide
  have m:uK .i64 (d:Int) 0=(d:Int):=by have:=DB (a:=d) (b:=0) an (by decide);simpa using this
  simp(disch:=omega)[kq,K,L,M,O,P,Q,R,S,kP,T,U,V,cz,W,m];have v:=J9 (G:=G) x;rw[A x t] at v
  have X:x.cs=[.int .i64 (d:Int),.int .i64 (e:Int),.int .i64 (g:Int),.int .u32 (x.k:Int)]:=by rw[af.cs,H,I,J]
  simp only[IV,X] at v;obtain⟨o,q⟩:∃ o:Nat->Nat,∀ i,o i=x.k%256^i:=⟨_,fun _=>rfl⟩
  have ML:o 0=0:=by rw[q];simp[Nat.mod_one]
  have Kb:o 4=x.k:=by rw[q];exact acs F
  refine aQ 4 (fun i=>[(0,.vs (ak .u8 (B k)) .no),(4,.vs (IL (f.take k)) (.own 0)),(5,.ptr 1 0),(40,.int .i64 i)]) (fun i=>[some (.zone k),some (.cells [.int .i64 d,.int .i64 e,.int .i64 g,.int .u32 (o i)])]) (fun _=>True) ?_ ?_
  ·simp[av,aj,ML,P,Q,R,S,T,U,V,cz,W,m]
  intro i hi _
  by_cases w:i<4
  ·have l:=bk i w;have Y:x.k/256^i%256<256:=abv _ (by decide);have y:=Wa x.k i w F;rw[<-q,<-q] at y;obtain⟨z,AF⟩:∃ z,z=x.k/256^i%256:=⟨_,rfl⟩;rw[<-AF] at l Y y
   have m8:eO .i64 8 (i:Int)=((8*i:Nat):Int):=by unfold eO;rw[show((8:Int)*(i:Int))=((8*i:Nat):Int) by omega];exact IntWalk.i64_in _ ⟨an,an⟩
   have a4:aE .i64 4 (i:Int)=((4+i:Nat):Int):=by rw[ey]<;>omega
   have cb:=MK z Y;have fb:=(aaa.1 l).2;have MN:(((8*i:Nat):Int)<0)=False:=eq_false an;have AG:((i:Int)<4)=True:=eq_true an;simp(disch:=omega)[AG,MN,l,fb,kP,m8,a4,cb,y,av,aj,bH,w,-aab,-abn]
  ·have:i=4:=an
   subst this;simp(disch:=omega)[Kb,av,aj];refine ax v ?_;have jI:((k+1)*32<=140737488355328)=True:=eq_true an
   have gE:(f.take k).length=k:=by rw[aav];omega
   have eE:IL (f.take k)++[[.int .i64 (d:Int),.int .i64 (e:Int),.int .i64 (g:Int),.int .u32 (x.k:Int)]]=IL (f.take (k+1)):=by rw[<-X,Mx,aaM,E];rfl
   have h8:((8:Int)<=((B k).length:Int))=True:=eq_true an
   have Qx:ak .u8 (B (k+1))=(ak .u8 (B k)).drop 8:=by rw[AH,u]
   have lJ:(B (k+1)).take ((B k).length-8)=B (k+1):=aam (by rw[<-u,aa4];omega);simp(disch:=omega)[av,aj,jI,gE,eE,h8,AH,x8,u,lJ,s]
 ·have:k=f.length:=an
  subst this;have h0:(0<(B f.length).length)=False:=eq_false an;simp(disch:=omega)[h0,av,aj,FL]
def TR.cs(r:TR):List V:=[.vs (IL r.fr) .no,.vs (IL r.to) .no,.int .u32 r.lv]
def TV(r:TR):V:=.agg r.cs
def TL(t:List TR):List (List V):=t.map TR.cs
def TF(t:List TR):V:=.vs (TL t) .no
@[simp] theorem zL7 (t:List TR):(TL t).length=t.length:=by simp[TL]
theorem Hs{t:List TR}{i:Nat}{r:TR}(h:t[i]?=some r):(TL t)[i]?=some r.cs:=by simp[TL,h]
def TR.ok(r:TR):Prop:=r.fr.length<=maxLen/\r.to.length<=maxLen/\(∀ x∈r.fr,x.k<4294967296)/\(∀ x∈r.to,x.k<4294967296)/\r.lv<4294967296
def MO:∀ l:List Nat,(∀ b∈l,b<256)->Cv (ak .u8 l)=some (l.map aaZ)
 | [],_=>rfl
 | b::l,h=>by
  have a:=MO l fun c d=>h c (by simp[d]);simp only[ak] at a;simp[ak,Cv,a]
def Kc{w:List af}(h:aW w=true):w.length<=32/\∀ x∈w,jX x=true:=by simp only[aW,aad,decide_eq_true_eq,aaY,mK] at h;exact⟨h.1,fun x a=>(h.2 x a).1.2⟩
def zw2{x:af}:∀ b∈m9 x,b<256:=by
 intro b a;simp only[m9,gn,aaD,aaG,aaK,or_false,aa0,aaA] at a
 rcases a with(rfl|rfl|rfl|rfl)|⟨j,_,rfl⟩<;>exact abv _ (by decide)
def TR.sN(r:TR):List Nat:=gn r.lv 4++[r.fr.length%256,r.to.length%256]++kM r.fr++kM r.to
def zzW(r:TR):r.by=r.sN.map aaZ:=by
 have a:Re r.lv=(gn r.lv 4).map aaZ:=by simp[Re,gn,aay,aay.loop]
 rw[TR.by,TR.sN,a,zuB,zuB];simp
def Wb(r:TR):∀ b∈r.sN,b<256:=by
 intro b a;simp only[TR.sN,aaD,aaG,aaK,or_false,kM,acr] at a
 rcases a with((a|rfl|rfl)|⟨x,_,a⟩)|⟨x,_,a⟩
 ·simp only[gn,aa0,aaA] at a;obtain⟨j,_,rfl⟩:=a;exact abv _ (by decide)
 ·exact abv _ (by decide)
 ·exact abv _ (by decide)
 ·exact zw2 b a
 ·exact zw2 b a
def zsR[az G][ay G][aN G][cO G](r:TR)(h:r.ok):FP G 352 [TV r] (.bool r.may):=by
 refine bD cO.adG (aah rfl) ?_;obtain⟨i,j,k,l,m⟩:=h;have e:=Af (G:=G) r.fr i k;have f:=Af (G:=G) r.to j l;simp only[FL] at e f;simp[TV,TR.cs];refine ax e ?_
 cases a:aW r.fr with
 | false=>simp[TR.may,a]
 | true =>
  simp;refine ax f ?_
  cases b:aW r.to with
  | false=>simp[TR.may,a,b]
  | true =>
   by_cases c:r.to.length<r.fr.length
   ·by_cases g:r.lv<262144
    ·have d:((r.lv:Int)<262144)=True:=eq_true an;simp[TR.may,a,b,c,g,d]
    ·have d:((r.lv:Int)<262144)=False:=eq_false an;simp[TR.may,a,b,c,g,d]
   ·simp[TR.may,a,b,c]
def SE(G:aM)(f:Nat)(args:List V)(H:ae)(r:V):Prop:=∃ H1,bA G (.F f args H r H1)/\aj H.length H1=H
def zEe{f b:Nat}{body:bc}{a:List jw}{args:List V}{r:V}{H:ae}(d:G f=some ⟨b,body,a⟩)(e:args.length<=b)
  (h:W G body [] (ib (p_ 0 args)) H (QX a fun g H1=>g=r/\aj H.length H1=H)):SE G f args H r:=by
 obtain⟨x,m,H1,c,i,vs,j,k,l⟩:=h;rw[<-MP] at c;rw[<-k];exact⟨_,.fn d e c i j,l⟩
def SE.vcall{f:Nat}{cap args:List V}{r:V}{H:ae}{base:Nat}{d:Option Nat}{os:List aD}{K:List Kt}{e:Env}{Q:Ex->Env->ae->Prop}{ro:Bool}(h:SE G f (args++cap) H r)(b:r.cl H.length=r)
  (c:WO G base os K (e.put d r) H Q):J4 G ro (.fn f cap) args base d os K e H Q:=by
 obtain⟨H1,g,a⟩:=h;refine kj g (fun _=>a) ?_;rw[b,a];exact c
def SE.scall{f:Nat}{args:List V}{r:V}{H:ae}{base:Nat}{d:Option Nat}{os:List aD}{K:List Kt}{e:Env}{Q:Ex->Env->ae->Prop}(h:SE G f args H r)(a:r.cl H.length=r)
  (b:WO G base os K (e.put d r) H Q):Rh G f args base d os K e H Q:=by
 obtain⟨H1,c,g⟩:=h;refine yY c ?_;rw[a,g];exact b
def MQ[az G][ej G][cO G](r:TR)(C:r.ok)(p:r.may=true)(H:ae)(q:im H):SE G 353 [TV r] H (.str r.by):=by
 refine zEe cO.adH (aah rfl) ?_;have c:=MR q;have E:∀ s:ae,aj H.length (H++s)=H:=fun s=>q.back s;obtain⟨S,T,F,I,U⟩:=C;simp only[TR.may,aad,decide_eq_true_eq] at p;obtain⟨⟨⟨J,K⟩,_⟩,_⟩:=p;obtain⟨W,L⟩:=Kc J;obtain⟨X,M⟩:=Kc K;have t:=V9 (G:=G) r.fr an F L;have u:=V9 (G:=G) r.to an I M;simp only[FL] at t u;obtain⟨v,e⟩:∃ v,r.lv=v:=⟨_,rfl⟩;have N:jR .u32 (v:Int) 8=((v/256:Nat):Int):=Ae (j:=8) (by decide)
 have O:jR .u32 (v:Int) 16=((v/65536:Nat):Int):=Ae (j:=16) (by decide);have P:jR .u32 (v:Int) 24=((v/16777216:Nat):Int):=Ae (j:=24) (by decide);obtain⟨B,d⟩:∃ B:List Nat,B=gn v 4++[r.fr.length%256,r.to.length%256]:=⟨_,rfl⟩
 have x:B.length=6:=by rw[d];simp[gn]
 have i:[[V.int .u8 (v%256:Nat)],[V.int .u8 (v/256%256:Nat)],[V.int .u8 (v/65536%256:Nat)],[V.int .u8 (v/16777216%256:Nat)],[V.int .u8 (r.fr.length%256:Nat)],[V.int .u8 (r.to.length%256:Nat)]]=ak .u8 B:=by rw[d];simp[ak,gn,aay,aay.loop]
 simp(disch:=omega)[la,TV,TR.cs,e,N,O,P,J8,i,-abA,-abh]
 obtain⟨D,f⟩:∃ D:Nat->List Nat,∀ j,D j=if j=0 then B else if j=1 then B++kM r.fr else B++kM r.fr++kM r.to:=⟨_,fun _=>rfl⟩
 have k:D 0=B:=by rw[f];rfl
 have b:D 1=B++kM r.fr:=by rw[f];rfl
 have m:D 2=r.sN:=by rw[f,TR.sN,e,d];rfl
 have n:(D 1).length=6+8*r.fr.length:=by rw[b,aan,x,Ct]
 have Q:(D 2).length=6+8*r.fr.length+8*r.to.length:=by rw[m,TR.sN,aan,e,<-d,<-b,n,Ct]
 have p1:ak .u8 B++ak .u8 (kM r.fr)=ak .u8 (D 1):=by rw[b];simp[ak]
 have p2:ak .u8 (D 1)++ak .u8 (kM r.to)=ak .u8 (D 2):=by rw[b,f];simp[ak]
 have q1:(kM r.fr).length=8*r.fr.length:=Ct _;have R:(kM r.to).length=8*r.to.length:=Ct _
 have n1:∀ l:List Nat,(ak .u8 l=[])=(l=[]):=fun l=>by simp[ak]
 have g:∀ w:List af,(kM w=[])=(w=[]):=fun w=>propext ⟨fun h=>abF (by have:=Ct w;rw[h] at this;simp at this;omega),fun h=>by rw[h];rfl⟩;have y:=MO r.sN (Wb r);rw[<-zzW,<-m] at y
 refine aQ 2 (fun j=>[(3,.vs (ak .u8 (D j)) (.own (H.length+1))),(36,.agg [.vs (IL r.fr) .no,.vs (IL r.to) .no]),(37,.int .i64 j)])
  (fun j=>H++[some (.cells [.vs (IL r.fr) .no,.vs (IL r.to) .no,.int .u32 v]),some (.zone (D j).length)]) (fun _=>True) ?_ ?_
 ·simp[av,c,k]
 have z:aE .i64 0 1=1:=by rw[ey]<;>omega
 have A:aE .i64 1 1=2:=by rw[ey]<;>omega
 intro j Y _
 rcases(show j=0\/j=1\/j=2 by omega) with rfl|rfl|rfl
 ·simp;refine ax t ?_
  by_cases a:r.fr=[]
  ·have o:D 1=B:=by rw[b,a];simp[kM]
   simp(disch:=omega)[k,n1,g,a,o,av,c,z]
  ·simp(disch:=omega)[k,n1,g,a,x,q1,n,p1,aC,av,c,iq,z]
 ·simp;refine ax u ?_
  by_cases a:r.to=[]
  ·have o:D 2=D 1:=by rw[m,TR.sN,e,<-d,<-b,a];simp[kM]
   simp(disch:=omega)[n1,g,a,o,av,c,A]
  ·simp(disch:=omega)[n1,g,a,R,n,Q,p2,aC,av,c,iq,A]
 ·simp[y,E]
def SE.fp{f:Nat}{args:List V}{s:List UInt8}(h:SE G f args [] (.str s)):FP G f args (.str s):=by obtain⟨H1,a,_⟩:=h;exact⟨_,_,a,ir⟩
def Wf:im []:=fun _ _=>rfl
def Wh:∀{t:List TR},uJ t=true↔∀(j:Nat) (a b:TR),t[j]?=some a->t[j+1]?=some b->wO a b=true
 | []=>by simp[uJ]
 | [a]=>by simp[uJ]
 | a::b::l=>by
  rw[uJ,aad,Wh (t:=b::l)];constructor
  ·rintro⟨e,f⟩ j x y c d
   cases j with
   | zero=>simp at c d;rw[<-c,<-d];exact e
   | succ j=>exact f j x y (by simpa using c) (by simpa using d)
  ·intro h;exact⟨h 0 a b rfl rfl,fun j x y c d=>h (j+1) x y (by simpa using c) (by simpa using d)⟩
def MU(t:List TR)(i:Nat):Prop:=∀ j<i,∀ r,t[j]?=some r->r.may=true/\∀ q,0<j->t[j-1]?=some q->wO q r=true
def zET{t:List TR}(h:MU t t.length):ef t=decide (t.length<=64):=by
 have e:t.all TR.may=true:=by rw[aaY];intro r f;obtain⟨j,c⟩:=ab7 f;exact(h j (aaa.1 c).1 r c).1
 have g:uJ t=true:=Wh.2 fun j a b i d=>(h (j+1) (aaa.1 d).1 b d).2 a an (by simpa using i);simp[ef,e,g]
def MV{t:List TR}(h:ef t=true):MU t t.length/\t.length<=64:=by simp only[ef,aad,decide_eq_true_eq] at h;obtain⟨⟨b,c⟩,d⟩:=h;refine⟨fun j f r a=>⟨aaY.1 b r (aaq a),fun q g e=>?_⟩,d⟩;exact Wh.1 c (j-1) q r e (by rw[show j-1+1=j by omega];exact a)
def zw3{t:List TR}{i:Nat}{r:TR}(a:t[i]?=some r)(h:r.may=false\/∃ q,0<i/\t[i-1]?=some q/\wO q r=false):ef t=false:=by
 cases d:ef t with
 | false=>rfl
 | true =>
  obtain⟨b,e⟩:=(MV d).1 i (aaa.1 a).1 r a
  rcases h with h|⟨q,f,g,c⟩
  ·rw[h] at b;cases b
  ·have:=e q f g;rw[this] at c;cases c
def MW[az G][ay G][aN G][ej G][cO G](t:List TR)(U:t.length<=1000000)(C:∀ r∈t,r.ok):FP G 354 [TF t] (.bool (ef t)):=by
 refine bD cO.adI (aah rfl) ?_;simp[TF];refine aQ t.length (fun i=>[(0,TF t),(5,TF t),(6,.int .i64 t.length),(7,.int .i64 i)]) (fun _=>[]) (fun i=>MU t i) ?_ ?_
 ·simp[av,aj,TF];intro j l;omega
 intro i hi m
 by_cases e:i<t.length
 ·obtain⟨x,D⟩:∃ x,x=t[i]:=⟨_,rfl⟩
  have a:t[i]?=some x:=by rw[D];exact aae e
  have L:=Hs a;have M:x∈t:=aaq a;have E:=C x M;have o:x.cs.length=3:=rfl;have p:x.cs.take 3=x.cs:=rfl
  have N:∀ n,aX n x.cs=x.cs:=fun n=>by simp[TR.cs,aX,V.cl,Tk.cl]
  have O:(TL t)[i]'(by simpa using e)=x.cs:=by simp[TL,D]
  have c:=zsR (G:=G) x E;simp(disch:=omega)[bM,TF,L,O,o,p,N];simp only[TV] at c;refine ax c ?_
  cases f:x.may with
  | false =>
   have s:=zw3 a (.inl f)
   simp[s]
  | true =>
   by_cases g:0<i
   ·obtain⟨q,F⟩:∃ q,q=t[i-1]'(by omega):=⟨_,rfl⟩
    have d:t[i-1]?=some q:=by rw[F];exact aae an
    have u:(TL t)[i-1]'(by simp;omega)=q.cs:=by simp[TL,F]
    have v:=Hs d;have w:=(m (i-1) an q d).1;have y:=C q (aaq d);have P:q.cs.length=3:=rfl;have z:q.cs.take 3=q.cs:=rfl;have H:=(MQ (G:=G) q y w [] Wf).fp;have I:=(MQ (G:=G) x E f [] Wf).fp;simp only[TV] at H I
    have Q:c_ .i64 (i:Int) 1=((i-1:Nat):Int):=by rw[oW]<;>omega
    simp(disch:=omega)[g,Q,v,u,P,z,o,p,aC,gO];refine ax H ?_;simp(disch:=omega)[o,p];refine ax I ?_
    cases k:wO q x with
    | false =>
     have s:=zw3 a (.inr ⟨q,g,d,k⟩);have A:Op.bytesLess q.by x.by=false:=k
     simp[A,s]
    | true =>
     have A:Op.bytesLess q.by x.by=true:=k
     have B:MU t (i+1):=fun j l r b=>by
      rcases aaz.1 l with h|rfl
      ·exact m j h r b
      ·rw[a] at b;cases b;exact⟨f,fun W _ J=>by rw[d] at J;cases J;exact k⟩
     simp(disch:=omega)[A,e,bH,av,aj,TF,-aab];exact B
   ·have R:i=0:=an
    subst R
    have B:MU t 1:=fun j l r b=>by
     have:j=0:=an
     subst this;rw[a] at b;cases b;exact⟨f,fun q g=>absurd g an⟩
    have S:aE .i64 0 1=1:=by rw[ey]<;>omega
    simp(disch:=omega)[av,aj,TF,S,e,B]
 ·have T:i=t.length:=an
  subst T;have:=zET m
  by_cases K:t.length<=64
  ·have h:((t.length:Int)<=64)=True:=eq_true an;simp[this,K,h,TF]
  ·have h:((t.length:Int)<=64)=False:=eq_false an;simp[this,K,h,TF]
end Go.Ev
