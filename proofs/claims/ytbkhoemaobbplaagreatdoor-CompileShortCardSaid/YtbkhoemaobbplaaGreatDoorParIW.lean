/- A policy read off any text: contract. -/
import Derived.Test.YtbkhoemaobbplaaGreatDoorLowAW
set_option linter.defProp false
set_option linter.unusedSimpArgs false
set_option linter.unusedVariables false
set_option maxHeartbeats 32000000
set_option maxRecDepth 10000
open Int renaming natCast_add->aab,natCast_mul->aaB,natCast_emod->aaP
open Nat renaming le_of_ble_eq_true->aad,eq_or_lt_of_le->aag,le_of_lt_succ->aao,zero_le->aap,not_lt_zero->aaC,le_refl->aaZ
open List renaming getElem?_eq_some_iff->aae,getElem?_eq_getElem->aaf,mem_of_getElem?->aah,length_cons->aai,getElem?_drop->aal,length_pos_iff->aan,drop_eq_nil_of_le->aaq,mem_cons->aar,mem_map->aas,drop_succ_cons->aat,take_add_one->aau,drop_eq_getElem_cons->aav,cons_append->aax,take_length->aay,not_mem_nil->aaA,drop_drop->aaD,mem_of_mem_take->aaG,length_append->aaH,mem_singleton->aaJ,length_take->aaN,getElem_mem->aaO,length_nil->aaT,nil_append->aaW,mem_append->aaX,drop_zero->aaY,range->aa1
open Option renaming getD_some->aaj,isSome_iff_exists->aak,getD_none->aaw,isSome_some->aaI
open UInt8 renaming toNat->aaL,ofNat->aa0
namespace Go.Ev
open Go Go.RowKit
variable {G:aK}
def T5:V:=.agg [.vs [] .no,.int .u32 0]
def pO(r:Jm):V:=.a_ [.agg r.1.cs,.int .i64 (r.2.1:Nat),.int .i64 (r.2.2:Nat)]
def zIo(w:List UInt8):gY 32 w=gV (gY 32 w) []::aZ (gY 32 w):=by
 have:=Dq 32 w
 cases h:gY 32 w with
 | nil=>exact absurd h this
 | cons a b=>rfl
def zwK[cS G][bT G][dg G][cY G][ga G][dP G](S:List UInt8)(ha:S.length<=20000):FP G 467 [.str S] (pO (ee S)):=by
 refine bt dP.agu (aad rfl) ?_;have he:(20000<(S.length:Int))=False:=ag6;obtain⟨U,Ch⟩:=bb (ee S);rw[<-Ch];simp[he]
 refine xe (S:=Nat×Nat×List Ru×Option Nat) (λs=>S.length-(s.1+s.2.1)) (λs=>[(0,.str S),(2,.ptr 0 0),(5,.ptr 1 0),(6,.int .i64 (s.1:Nat)),(7,.bool s.2.2.2.isSome),(20,.ptr 2 0)])
  (λs=>[some (.cells [.vs [] .full,.int .u32 0]),some (.cells [.vs (RL s.2.2.1) (.own 3),.int .u32 (s.2.2.2.getD 0:Nat)]),some (.dF S (s.1+s.2.1)),some (.zone s.2.2.1.length)])
  (λs=>s.1<=S.length/\s.2.1<=(fW 10 (S.drop s.1)).length/\s.2.2.1.length<=64/\vg s.1 s.2.2.1 s.2.2.2 (gY 10 (S.drop s.1))=U) (0,0,[],none) ?_ ?_
 .refine⟨⟨aap _,aap _,ir,by rw[Ch];rfl⟩,?_,?_⟩
  .simp[aw]
  .simp[ak,ax.cl,ba,V.cl,Tk.cl,RL]
 rintro⟨o,j,rs,B⟩ ⟨p1,p2,p3,p4⟩;simp only at p1 p2 p3 p4 |-;obtain⟨w1,w2,w3,w4,w5⟩:=ES 10 (S.drop o)
 have nM:(S.drop o).length=S.length-o:=by simp
 rw[zww] at p4
 have kP:iH 10 (S.drop o)=S.drop (o+(fW 10 (S.drop o)).length+1):=by unfold iH;rw[aaD];congr 1
 rw[kP,nM] at p4;obtain⟨w,W⟩:=bb (fW 10 (S.drop o));rw[<-W] at p2 p4 w1 w2 w3 w4 w5;rw[nM] at w1 w4;have hg:∀i,o<=i->i<o+w.length->S[i]?≠some 10:=λi K I h=>w3 (i-o) an (by rw[aal,show o+(i-o)=i by omega];exact h)
 have L:o+w.length<S.length->S[o+w.length]?=some 10:=λh=>by have:=w4 an;rwa[aal] at this
 by_cases hj:j<w.length
 .obtain⟨r,n,u,hr,hn,jh⟩:=zqF (t:=S) (m:=10) ag7 (i:=o+j) (k:=o+w.length) an an (λi K I=>hg i an I) L
  have h5:o+j<S.length:=an
  have cU:((r:Int) !=10)=true:=by have q:r≠10:=hr;simp;omega
  simp[h5,u,cU,-aab];refine⟨(o,j+n,rs,B),?_,⟨p1,by rw[<-W];simp only;omega,p3,?_⟩,?_,?_⟩
  .simp only;omega
  .simp only;rw[zww,<-W,nM,kP,<-W];exact p4
  .simp[aw]
  .simp[ak,ax.cl,ba,V.cl,Tk.cl,Nat.add_assoc]
 have M:j=w.length:=an
 subst M
 by_cases g:o+w.length<S.length
 .rw[if_pos an] at p4;obtain⟨q,N⟩:=bb (o+w.length);have u:=Jc (L g) ag7;rw[<-N] at u g p4 |-
  have O:(S.drop o).take (q-o)=w:=by rw[show q-o=w.length by omega];exact w2
  have P:((o:Int)<=(q:Int))=True:=ag5;have Q:((q:Int)<=(S.length:Int))=True:=ag5
  have e3:aD .i64 (q:Int) 1=((q+1:Nat):Int):=by rw[eG]<;>omega
  have X:=Dq 10 (S.drop (q+1));obtain⟨dv,Y⟩:∃dv:Int,dv=((B.getD 0:Nat):Int):=⟨_,rfl⟩;obtain⟨D,z⟩:∃D:List UInt8->Bool->Bool->ae,∀s e d,D s e d=[some (.cells [.vs [] .full,.int .u32 0]),some (.cells [.vs (RL rs) (.own 3),.int .u32 dv]),some (.dF S (q+1)),some (.zone rs.length),some (.cells [.str s,.bool e,.bool d])]:=⟨_,λ_ _ _=>rfl⟩
  have hh:∀s e d,im (D s e d):=λs e d m hm=>by
   rw[z] at hm |-;simp only[aai,aaT] at hm;simp[ax.cl,ba,V.cl,Tk.cl,show 3<m by omega]
  have Z:∀s e d s' e' d',fN (D s e d) 4 s' e' d'=D s' e' d':=λs e d s' e' d'=>by rw[z,z];rfl
  have T8:∀s e d,ve (D s e d) 4 s e d:=λs e d=>⟨by rw[z];rfl,hh s e d⟩;obtain⟨f,hf⟩:=bb (gV (gY 32 w) []);obtain⟨ws,v5⟩:=bb (aZ (gY 32 w))
  have a:gY 32 w=f::ws:=by rw[hf,v5];exact zIo w
  have R:∀x∈ws,gK x:=λx hx=>TH w x (by rw[a];simp[hx])
  have M:aN (f::ws)=w:=by rw[<-a];exact TG w
  have hz:(aN ws).length<=w.length:=by rw[<-M];exact zmg f ws
  have q1:=Ji (G:=G) (H:=D w false false) (b:=4) (l:=[]) (ws:=f::ws) (d:=false) (by rw[<-a];exact TH w) (by
   rw[show eT [] (f::ws)=w by rw[eT,if_neg ir,M],show bp (f::ws)=false by simp[bp]];exact T8 w false false) (by rw[M];omega)
  rw[show gV (f::ws) []=f from rfl,show aZ (f::ws)=ws from rfl,show bp (f::ws)=false by simp[bp],Z,Bool.or_false] at q1
  have JI:U=(mz,o,2)->pO U=.a_ [T5,.int .i64 o,.int .i64 2]:=λh=>by rw[h];rfl
  rw[<-Y]
  by_cases C:f=[111,110]/\B=none
  .obtain⟨p,rfl⟩:=C;simp only[aaw] at Y;simp only[vg,X,if_false] at p4;have Gm:ve (D (eT f ws) (bp ws) false++[none]) 4 (eT f ws) (bp ws) false:=(T8 _ _ _).Jh (λn=>rfl);obtain⟨s,e,E,x,c,g1,g2⟩:=zEe (G:=G) R Gm an;rw[TA (by rw[z];simp),Z] at c;have jN:((rs.length+1)*40<=140737488355328)=True:=ag5;have GX:(∀f∈RL rs,f.length=4)=True:=eq_true (by intro f hf;simp only[RL,aas] at hf;obtain⟨y,_,rfl⟩:=hf;rfl)
   have eF:RL rs++[x.cs]=RL (rs++[x]):=by simp[RL]
   have zL:(f==[111,110])=true:=by simpa using p
   simp only[z,Ru.cs,aax,aaW] at q1 c eF
   cases hb:E with
   | true =>
    have F:v7 w=none:=GU λy hy=>g2 hb y hy.1.1 hy.1.2 (by rw[hy.2,a,p])
    have hd:pJ w=none:=by
     cases h:pJ w with
     | none=>rfl
     | some v=>have:=zuc h;rw[a] at this;rw[show gV (f::ws) []=f from rfl,p] at this;cases this
    rw[F,hd] at p4;simp only at p4;rw[hb] at c;rw[JI p4.symm,T5];simp[g,u,O,P,Q,-aab];refine cN q1 ?_;simp[zL,-aab];refine cN c ?_
    simp[jN,GX,eF,e3,-aab]
   | false =>
    obtain⟨x1,x2,x3⟩:=g1 hb;have F:v7 w=some x:=zwx ⟨x1,x2⟩ (by rw[x3,a,p]);rw[F] at p4;simp only at p4;rw[hb] at c;simp[g,u,O,P,Q,-aab];refine cN q1 ?_;simp[zL,-aab];refine cN c ?_
    by_cases xO:64<=rs.length
    .rw[if_pos xO] at p4
     have Ci:rs.length=64:=an
     rw[<-p4];simp[Ci,pO,mz,Po.cs,RL,-aab]
    .rw[if_neg xO] at p4
     have hk:((rs.length:Int)==64)=false:=by simp;omega
     simp[hk,jN,GX,eF,e3,-aab];refine⟨(q+1,0,rs++[x],none),?_,⟨by simp only;omega,aap _,by simp;omega,?_⟩,?_,?_⟩
     .simp only;omega
     .simp only;rw[N];rw[N] at p4;exact p4
     .simp[aw]
     .simp[ak,ax.cl,ba,V.cl,Tk.cl,Y]
  by_cases Dy:f=[100,101,102,97,117,108,116]/\B=none
  .obtain⟨p,rfl⟩:=Dy;simp only[aaw] at Y;simp only[vg,X,if_false] at p4
   have F:v7 w=none:=by
    cases h:v7 w with
    | none=>rfl
    | some v=>have:=zrT h;rw[a] at this;rw[show gV (f::ws) []=f from rfl,p] at this;cases this
   rw[F] at p4;simp only at p4;have c:=Ji (G:=G) R (T8 (eT f ws) (bp ws) false) an;obtain⟨A,hA⟩:=bb (gV ws []);have lA:=ET ws;rw[<-hA] at c lA;rw[Z,Bool.false_or] at c;have pA:=zmE (G:=G) A an;have m1:=zqK (G:=G) (T8 (eT (gV ws f) (aZ ws)) (bp (aZ ws)) (bp ws)) (if eS A=none then 2 else 0);rw[EU,Z] at m1
   have zL:(f==[100,101,102,97,117,108,116])=true:=by simpa using p
   have hs:(f==[111,110])=false:=by rw[p];rfl
   have cM:bp ws=false->(eS A).isNone=false->bp (aZ ws)=true->∃v,eS A=some v/\pJ w=some v:=by
    intro a1 a2 a3;obtain⟨v,T⟩:=aak.1 (by rw[<-Option.not_isNone,a2];rfl);refine⟨v,T,zyJ (BY T).1 ?_⟩;rw[a,I_,(BY T).2,p]
    cases ws with
    | nil=>simp[bp] at a1
    | cons y r =>
     have:r=[]:=of_decide_eq_true a3;rw[this,hA];rfl
   have E:bp ws=true\/(eS A).isNone=true\/bp (aZ ws)=false->pJ w=none:=by
    intro h
    cases hd:pJ w with
    | none=>rfl
    | some v =>
     obtain⟨d1,d2⟩:=TJ hd;rw[a,I_] at d2
     injection d2 with _ d2
     rw[<-d2] at h hA
     have:eS A=some v:=by rw[hA];exact GV d1
     rw[this] at h;simp[bp,aZ] at h
   simp only[z] at q1 c m1;simp only[j5] at pA;generalize eT (gV ws f) (aZ ws)=s1 at *;simp[g,u,O,P,Q,-aab];refine cN q1 ?_;simp[zL,hs,-aab];refine cN c ?_;simp[-aab];refine au pA ?_;simp[-aab];refine cN m1 ?_
   cases a1:bp ws<;>cases a2:(eS A).isNone<;>cases a3:bp (aZ ws)
   rotate_left
   .obtain⟨v,T,hd⟩:=cM a1 a2 a3;rw[hd] at p4;simp only at p4;simp[T,e3,-aab];refine⟨(q+1,0,rs,some v),?_,⟨by simp only;omega,aap _,p3,?_⟩,?_,?_⟩
    .simp only;omega
    .simp only;rw[N];rw[N] at p4;exact p4
    .simp[aw]
    .simp[ak,ax.cl,ba,V.cl,Tk.cl]
   all_goals
    rw[E (by rw[a1,a2,a3];simp)] at p4;simp only at p4;rw[JI p4.symm,T5];simp[-aab]
  .have hp:U=(mz,o,2):=by
    rw[<-p4]
    cases B with
    | some v=>simp only[vg,X,if_false]
    | none =>
     simp only[vg,X,if_false]
     have F:v7 w=none:=by
      cases h:v7 w with
      | none=>rfl
      | some v=>have:=zrT h;rw[a] at this;exact absurd ⟨this,rfl⟩ C
     have hd:pJ w=none:=by
      cases h:pJ w with
      | none=>rfl
      | some v=>have:=zuc h;rw[a] at this;exact absurd ⟨this,rfl⟩ Dy
     rw[F,hd]
   rw[JI hp,T5];simp only[z] at q1
   cases B with
   | some v =>
    simp[g,u,O,P,Q,-aab];refine cN q1 ?_
    cases K:(f==[111,110])<;>cases I:(f==[100,101,102,97,117,108,116])<;>simp[K,I,-aab]
   | none =>
    have K:(f==[111,110])=false:=by simpa using λh=>C ⟨h,rfl⟩
    have I:(f==[100,101,102,97,117,108,116])=false:=by simpa using λh=>Dy ⟨h,rfl⟩
    simp[g,u,O,P,Q,-aab];refine cN q1 ?_;simp[K,I,-aab]
 .rw[if_neg an] at p4
  have ht:o+w.length=S.length:=an
  simp only[vg,if_true] at p4
  by_cases J:w=[]
  .rw[if_pos J] at p4
   have ho:o=S.length:=by rw[<-ht,J];simp
   subst ho
   cases B with
   | none =>
    simp only at p4;rw[<-p4]
    simp[g,J,pO,mz,Po.cs,RL]
   | some v =>
    simp only at p4;rw[<-p4];simp[g,J,pO,Po.cs]
  .rw[if_neg J] at p4;have FO:((o:Int)<(S.length:Int))=True:=eq_true (by have:=aan.2 J;omega);rw[<-p4];simp[g,FO,pO,mz,Po.cs,RL]
def zCl(x:Int):∃v:Nat,v<18446744073709551616/\IntKind.u64.wrap x=(v:Int):=by refine⟨(IntKind.u64.wrap x).toNat,?_⟩;simp only[IntKind.wrap,show IntKind.u64.signed=false from rfl];simp[IntKind.bits];omega
def zoS[gg G][dq G](s:List UInt8)(hl:s.length<=1000000):FP G 487 [.str s] (.a_ [.int .u64 ((dI s).getD 0:Nat),.bool (dI s).isSome]):=by
 refine bt gg.agI (aad rfl) ?_
 cases F:dI s with
 | some n =>
  obtain⟨H,I⟩:=Au F;obtain⟨ds,o,p,J,h4,h5,h6⟩:=I7 n H;rw[I] at o;have j:=LG (G:=G) n H;rw[I] at j;obtain⟨N,R⟩:=bb ds.length
  have l:s.length=N+2:=by rw[o];simp;omega
  have e:(((N:Int)+2)<3)=False:=ag6;have m:(18<(N:Int)+2)=False:=ag6;obtain⟨a,f⟩:∃a:Nat->Nat,∀i,a i=iG (ds.take i):=⟨_,λ_=>rfl⟩
  have r:a N=n:=by rw[f,R,aay,J]
  have T:a 0=0:=by rw[f];rfl
  simp(disch:=omega)[l,e,m];refine aM N (λk=>[(0,.str s),(4,.int .u64 (a k:Nat)),(5,.int .i64 (k+2:Nat))]) (λ_=>[]) (λ_=>True) ?_ ?_
  .simp[aw,ak,T]
  intro k U _
  rcases aag U with V|c
  .subst V;have W:(((k+2:Nat):Int)<((k+2:Nat):Int))=False:=ag6;simp(disch:=omega)[l,W,r,-aab];refine au j ?_;simp
  .have t:k<ds.length:=an
   obtain⟨d,hd⟩:=bb (ds[k])
   have u:ds[k]?=some d:=by rw[aaf t,hd]
   have X:d<16:=p d (aah u)
   have Y:s[k+2]?=some (ko d):=by rw[o,List.getElem?_append_right ir];simp[u]
   obtain⟨DP,K⟩:=aae.1 Y
   have Z:a (k+1)=16*a k+d:=by rw[f,f,aau,u];exact GL _ _
   have D6:a k*16+16<=18446744073709551616:=by
    have:=Z0 k (ds.take k) (by rw[aaN];omega) (λy hy=>p y (aaG hy));rw[<-f] at this;have p:16^k<=16^15:=Nat.pow_le_pow_right ag7 an
    have J:(16:Nat)^15=1152921504606846976:=by decide
    omega
   have L:(((k+2:Nat):Int)<((N+2:Nat):Int))=True:=ag5
   have g:aD .i64 ((k+2:Nat):Int) 1=((k+1+2:Nat):Int):=by rw[eG]<;>omega
   have M:dN .u64 (a k:Int) 16=((a k*16:Nat):Int):=by unfold dN;rw[show(a k:Int)*16=((a k*16:Nat):Int) by omega];exact IntWalk.u64_in _ ⟨an,an⟩
   have O:aD .u64 ((a k*16:Nat):Int) (d:Int)=(a (k+1):Int):=by unfold aD;rw[Z,show((a k*16:Nat):Int)+(d:Int)=((16*a k+d:Nat):Int) by omega];exact IntWalk.u64_in _ ⟨an,an⟩
   by_cases w:d<10
   .have x:=zBW w;have z:eP .u64 ((48+d:Nat):Int)=((48+d:Nat):Int):=IntWalk.u64_in _ ⟨an,an⟩
    have A:bP .u64 ((48+d:Nat):Int) 48=(d:Int):=by unfold bP;rw[show((48+d:Nat):Int)-48=(d:Int) by omega];exact IntWalk.u64_in _ ⟨an,an⟩
    have B:((97:Int)<=((48+d:Nat):Int))=False:=ag6;simp(disch:=omega)[l,L,K,x,z,A,B,M,O,g,aw,c,-aab,-aaB]
   .have x:=zBX X an;have z:eP .u64 ((87+d:Nat):Int)=((87+d:Nat):Int):=IntWalk.u64_in _ ⟨an,an⟩
    have A:bP .u64 ((87+d:Nat):Int) 87=(d:Int):=by unfold bP;rw[show((87+d:Nat):Int)-87=(d:Int) by omega];exact IntWalk.u64_in _ ⟨an,an⟩
    have B:((97:Int)<=((87+d:Nat):Int))=True:=ag5
    simp(disch:=omega)[l,L,K,x,z,A,B,M,O,g,aw,c,-aab,-aaB]
 | none =>
  by_cases e:(s.length:Int)<3
  .simp[e]
  by_cases m:18<(s.length:Int)
  .simp[e,m]
  simp[e,m];refine xe (S:=Nat×Nat) (λq=>s.length-q.1) (λq=>[(0,.str s),(4,.int .u64 (q.2:Nat)),(5,.int .i64 (q.1:Nat))]) (λ_=>[]) (λq=>q.1<=s.length/\q.2<18446744073709551616) (2,0) ?_ ?_
  .refine⟨⟨by simp only;omega,ag7⟩,?_,?_⟩<;>simp[aw,ak]
  rintro⟨i,v⟩ ⟨p1,p2⟩;simp only at p1 p2 |-
  by_cases c:i<s.length
  .obtain⟨b,hb⟩:∃b,s[i]?=some b:=⟨_,aaf c⟩;obtain⟨_,P⟩:=aae.1 hb
   have g:aD .i64 (i:Int) 1=((i+1:Nat):Int):=by rw[eG]<;>omega
   by_cases Q:(97:Int)<=(b.toNat:Int)
   .simp[c,P,Q,g,-aab];obtain⟨C,D,E⟩:=zCl (dN .u64 (v:Int) 16+bP .u64 (eP .u64 (b.toNat:Int)) 87);exact⟨(i+1,C),by simp only;omega,⟨by simp only;omega,D⟩,by simp only[<-E];simp[aw,aD],by simp[ak]⟩
   .simp[c,P,Q,g,-aab];obtain⟨C,D,E⟩:=zCl (dN .u64 (v:Int) 16+bP .u64 (eP .u64 (b.toNat:Int)) 48);exact⟨(i+1,C),by simp only;omega,⟨by simp only;omega,D⟩,by simp only[<-E];simp[aw,aD],by simp[ak]⟩
  .have j:=LG (G:=G) v p2
   have ay:(br v==s)=false:=by rw[beq_eq_false_iff_ne];exact λh=>O5 F v ⟨p2,h⟩
   simp[c];refine au j ?_;simp[ay]
def NV(M:List (List UInt8×Int)):V:=.vs (cB (M.map (·.1))) .no
def KV(M:List (List UInt8×Int)):V:=.vs (M.map λp=>[.int .u32 p.2]) .no
def zs6{α:Type}(f:α->Bool):∀M:List α,∃N,N<=M.length/\(∀i p,i<N->M[i]?=some p->f p=false)/\(N<M.length->∃p,M[N]?=some p/\f p=true/\M.find? f=some p)/\(N=M.length->M.find? f=none)
 | []=>⟨0,aaZ _,λi p h=>absurd h (aaC _),λh=>absurd h (aaC _),λ_=>rfl⟩
 | x::M=>by
  cases a:f x with
  | true=>exact⟨0,aap _,λi p h=>absurd h (aaC _),λ_=>⟨x,rfl,a,by simp[a]⟩,λh=>by simp at h⟩
  | false =>
   obtain⟨N,c,d,e,g⟩:=zs6 f M;refine⟨N+1,by simpa using c,?_,?_,?_⟩
   .intro i p hi b
    cases i with
    | zero=>simp at b;subst b;exact a
    | succ i=>exact d i p an (by simpa using b)
   .intro h;obtain⟨p,j,k,l⟩:=e (by simpa using h);exact⟨p,by simpa using j,k,by simp[a,l]⟩
   .intro h;have:=g (by simpa using h);simp[a,this]
def zqQ[dS G][dq G]{M:List (List UInt8×Int)}(f:iL M)(t:M.length<=100)(n:Nat)(u:n<4294967296):FP G 490 [NV M,KV M,.int .u32 n] (.str (cZ M n)):=by
 refine bt dS.agL (aad rfl) ?_;obtain⟨N,v,g,h,j⟩:=zs6 (λp:List UInt8×Int=>p.2==(n:Int)) M;have k:eP .u64 (n:Int)=(n:Int):=IntWalk.u64_in _ ⟨an,an⟩;have l:=LG (G:=G) n an;simp[NV,KV]
 refine aM N (λi=>[(0,.vs (cB (M.map (·.1))) .no),(1,.vs (M.map λp=>[.int .u32 p.2]) .no),(2,.int .u32 n),(7,.int .i64 i)]) (λ_=>[]) (λ_=>True) ?_ ?_
 .simp[aw,ak]
 intro i hi _
 rcases aag hi with m|a
 .subst m
  by_cases a:i<M.length
  .obtain⟨p,b,c,o⟩:=h a
   have d:cZ M n=p.1:=by
    have:pI M n=p.1:=by simp[pI,o]
    rw[cZ,this,if_neg (f.cM p (aah b)).2.1]
   obtain⟨_,e⟩:=aae.1 b;rw[d];simp[a,e,c,cB]
  .have:i=M.length:=an
   subst this;have q:=j rfl
   have d:cZ M n=br n:=by simp[cZ,pI,q]
   rw[d];simp[k];refine au l ?_;simp
 .obtain⟨p,b⟩:∃p,M[i]?=some p:=⟨_,aaf an⟩;have c:=g i p a b;obtain⟨r,e⟩:=aae.1 b
  have s:aD .i64 (i:Int) 1=((i+1:Nat):Int):=by rw[eG]<;>omega
  simp[r,e,c,s,aw,ak,a,cB,-aab]
def zwL[dS G][dq G][gg G]{M:List (List UInt8×Int)}(f:iL M)(x:M.length<=100)(s:List UInt8)(y:s.length<=1000000):FP G 491 [NV M,KV M,.str s] (.a_ [.int .u32 ((pg M s).getD 0:Nat),.bool (pg M s).isSome]):=by
 refine bt dS.agM (aad rfl) ?_;obtain⟨N,F,z,A,t⟩:=zs6 (λp:List UInt8×Int=>p.1==s) M;have b:=zoS (G:=G) s y;have u:=λn d=>zqQ (G:=G) f x n d;simp only[NV,KV] at u;simp[NV,KV]
 refine aM N (λi=>[(0,.vs (cB (M.map (·.1))) .no),(1,.vs (M.map λp=>[.int .u32 p.2]) .no),(2,.str s),(8,.int .i64 i)]) (λ_=>[]) (λ_=>True) ?_ ?_
 .simp[aw,ak]
 intro i hi _
 rcases aag hi with c|e
 .subst c
  by_cases e:i<M.length
  .obtain⟨p,a,g,j⟩:=A e;rw[Z4 j] at j;obtain⟨v,B,k⟩:=zt6 f j;obtain⟨_,l⟩:=aae.1 a
   have m:p.1=s:=by simpa using g
   simp[e,l,m,cB,k,B]
  .have:i=M.length:=an
   subst this;have k:=zt7 f (t rfl);rw[k]
   cases d:dI s with
   | none =>
    rw[d] at b;simp;refine au b ?_
    simp
   | some n =>
    rw[d] at b;have C:=(Au d).2
    by_cases o:n<4294967296
    .have a:(4294967295<(n:Int))=False:=ag6;have q:eP .u32 (n:Int)=(n:Int):=IntWalk.u32_in _ ⟨an,an⟩;have w:=u n o
     by_cases c:pI M n=[]
     .have r:cZ M n=s:=by rw[cZ,if_pos c,C]
      rw[r] at w;simp;refine au b ?_;simp[a,q];refine au w ?_;simp[q,o,c]
     .have r:(cZ M n==s)=false:=by rw[beq_eq_false_iff_ne];intro h;exact c (Z3 f (t rfl) h).1
      simp;refine au b ?_;simp[a,q];refine au w ?_;simp[c,r]
    .have a:(4294967295<(n:Int))=True:=ag5;simp;refine au b ?_;simp[a,o]
 .obtain⟨p,a⟩:∃p,M[i]?=some p:=⟨_,aaf an⟩;have g:=z i p e a;obtain⟨D,l⟩:=aae.1 a
  have E:aD .i64 (i:Int) 1=((i+1:Nat):Int):=by rw[eG]<;>omega
  simp[D,l,g,E,aw,ak,e,cB,-aab]
def zlb[dS G]:FP G 488 [] (.a_ [NV qe,KV qe]):=by refine bt dS.agJ (aad rfl) ?_;simp[NV,KV,qe,cB]
def zxS[dS G][dq G](a:Nat)(b:a<4294967296):FP G 492 [.int .u32 a] (.str (cZ qe a)):=by refine bt dS.agN (aad rfl) ?_;have w:=zqQ (G:=G) EK ag7 a b;have q:=zlb (G:=G);simp only[NV,KV] at w q;simp;refine au q ?_;simp;refine au w ?_;simp
def zr7[dS G][dq G][gg G](s:List UInt8)(a:s.length<=1000000):FP G 493 [.str s] (.a_ [.int .u32 ((pg qe s).getD 0:Nat),.bool (pg qe s).isSome]):=by refine bt dS.agO (aad rfl) ?_;have w:=zwL (G:=G) EK ag7 s a;have q:=zlb (G:=G);simp only[NV,KV] at w q;simp;refine au q ?_;simp;refine au w ?_;simp
def z7:List (List Int):=[[0,1,2,3,60,57,62,9],[3,4,5,6,1,2,37,90],[63,64,1000000,57,93,1000000,129,222],[3,4,5,6,1,2,37,1000000]]
def Cj:List (List UInt8):=[Df,Dg,GM,Dh,Di,GN,Dj,GO]
def rO(a i k:Nat):Option (List UInt8×Int):=if(qe.getD i ([],0)).2=(a:Int)/\(z7.getD i []).getD k 0≠1000000 then some (Cj.getD k [],(z7.getD i []).getD k 0) else none
def wi(a j:Nat):List (List UInt8×Int):=(aa1 j).filterMap λj=>rO a (j/8) (j%8)
def zCm(a i k:Nat)(d:k<8):wi a (8*i+k+1)=wi a (8*i+k)++(rO a i k).toList:=by
 have b:(8*i+k)/8=i:=an
 have c:(8*i+k)%8=k:=an
 unfold wi;rw[List.range_succ,List.filterMap_append,List.filterMap_cons,b,c]
 cases rO a i k<;>rfl
def zwM(a:Nat):wi a 32=pd a:=by
 by_cases b:a=3221225534
 .subst b;rfl
 by_cases c:a=1073741827
 .subst c;rfl
 by_cases d:a=3221225655
 .subst d;rfl
 by_cases f:a=1073741864
 .subst f;rfl
 have i:pd a=[]:=by simp[pd,GQ,b,c,d,f]
 rw[i];unfold wi;rw[List.filterMap_eq_nil_iff];intro j g
 have g:j<32:=by simpa using g
 unfold rO;rw[if_neg];rintro⟨h,_⟩
 have:j/8=0\/j/8=1\/j/8=2\/j/8=3:=an
 rcases this with e|e|e|e<;>rw[e] at h<;>simp[qe] at h<;>omega
def zwN(a:Nat):∀j,(wi a j).length<=j:=λj=>by
 unfold wi;have:=List.length_filterMap_le (λj=>rO a (j/8) (j%8)) (aa1 j);simpa using this
def zGR{β:Type}(f:β->V)(l:List β):(∀x∈l.map (λb=>[f b]),x.length=1)=True:=by simp only[eq_iff_iff,iff_true];intro x a;simp only[aas] at a;obtain⟨_,_,rfl⟩:=a;rfl
def zuk[dS G](a:Nat):FP G 489 [.int .u32 a] (.a_ [NV (pd a),KV (pd a)]):=by
 refine bt dS.agK (aad rfl) ?_;have W:=zlb (G:=G);obtain⟨S,t⟩:∃S:Nat->List (List UInt8×Int),∀j,S j=wi a j:=⟨_,λ_=>rfl⟩
 have Y:∀j,(S j).length<=j:=λj=>by rw[t];exact zwN a j
 have Z:S 0=[]:=by rw[t];rfl
 have ZY:∀i k,k<8->S (8*i+k+1)=S (8*i+k)++(rO a i k).toList:=λi k h=>by rw[t,t];exact zCm a i k h
 have F:pd a=S 32:=by rw[t];exact(zwM a).symm
 rw[F];obtain⟨g,H⟩:∃g:List (List V),g=Cj.map λw=>[.str w]:=⟨_,rfl⟩;obtain⟨l,d⟩:∃l:List (List V),l=z7.map λr=>[.vs (r.map λn=>[.int .u32 n]) .full]:=⟨_,rfl⟩;obtain⟨o,e⟩:∃o:List (List V),o=qe.map λp=>[.int .u32 p.2]:=⟨_,rfl⟩
 have u:∀M,NV M=.vs (cB (M.map (·.1))) .no:=λ_=>rfl
 have x:∀M,KV M=.vs (M.map λp=>[.int .u32 p.2]) .no:=λ_=>rfl
 have gN:∀k,k<8->g[k]?=some [.str (Cj.getD k [])]:=λk I=>by
  subst H
  have:k=0\/k=1\/k=2\/k=3\/k=4\/k=5\/k=6\/k=7:=an
  rcases this with rfl|rfl|rfl|rfl|rfl|rfl|rfl|rfl<;>rfl
 have gM:∀i,i<4->o[i]?=some [.int .u32 (qe.getD i ([],0)).2]:=λi hi=>by
  subst e
  have:i=0\/i=1\/i=2\/i=3:=an
  rcases this with rfl|rfl|rfl|rfl<;>rfl
 have gR:∀i,i<4->∃R,l[i]?=some [.vs R .full]/\∀k,k<8->R[k]?=some [.int .u32 ((z7.getD i []).getD k 0)]:=λi hi=>by
  subst d
  have:i=0\/i=1\/i=2\/i=3:=an
  rcases this with rfl|rfl|rfl|rfl<;>refine⟨_,rfl,λk I=>?_⟩<;>(have:k=0\/k=1\/k=2\/k=3\/k=4\/k=5\/k=6\/k=7:=by omega)<;>rcases this with rfl|rfl|rfl|rfl|rfl|rfl|rfl|rfl<;>rfl
 have lN:g.length=8:=by subst H;rfl
 have lM:o.length=4:=by subst e;rfl
 have lR:l.length=4:=by subst d;rfl
 rw[u,x,<-e] at W;rw[u,x];obtain⟨c,q⟩:∃c:List (List UInt8×Int)->List (List V),∀M,c M=M.map λp=>[.int .u32 p.2]:=⟨_,λ_=>rfl⟩
 have J:∀M,(c M).length=M.length:=λM=>by rw[q];simp
 rw[<-q];simp;refine au W ?_;simp
 refine aM 4 (λi=>[(0,.int .u32 a),(4,.vs g .full),(5,.int .u32 1000000),(6,.vs l .full),(8,.vs o .no),(9,.vs (cB ((S (8*i)).map (·.1))) (.own 0)),(10,.vs (c (S (8*i))) (.own 1)),(11,.int .i64 i)])
  (λi=>[some (.zone (S (8*i)).length),some (.zone (S (8*i)).length)]) (λ_=>True) ?_ ?_
 .simp[aw,ak,Z,q,cB,H,d,Cj,z7,Df,Dg,GM,Dh,Di,GN,Dj,GO]
 intro i hi _
 rcases aag hi with K|L
 .subst K;simp
 have uq:((i:Int)<4)=True:=ag5;obtain⟨R,y,N⟩:=gR i L;have D:=gM i L;obtain⟨m,X⟩:=bb ((qe.getD i ([],0)).2);rw[<-X] at D;simp[uq]
 refine aM 8 (λk=>[(0,.int .u32 a),(4,.vs g .full),(5,.int .u32 1000000),(6,.vs l .full),(8,.vs o .no),(9,.vs (cB ((S (8*i+k)).map (·.1))) (.own 0)),(10,.vs (c (S (8*i+k))) (.own 1)),(11,.int .i64 i),(12,.int .i64 k)])
  (λk=>[some (.zone (S (8*i+k)).length),some (.zone (S (8*i+k)).length)]) (λ_=>True) ?_ ?_
 .simp[aw,ak]
 intro k I _
 have a0:aD .i64 (i:Int) 1=((i+1:Nat):Int):=by rw[eG]<;>omega
 rcases aag I with K|s
 .subst K
  have:8*(i+1)=8*i+8:=an
  simp[aw,ak,a0,L,this,-aab]
 have O:=N k s;have z:=gN k s;have b:=ZY i k s;unfold rO at b;rw[<-X] at b;obtain⟨v,hv⟩:=bb ((z7.getD i []).getD k 0);obtain⟨w,hw⟩:=bb (Cj.getD k []);rw[<-hv] at O b;rw[<-hw] at z b
 have P:aD .i64 (k:Int) 1=((k+1:Nat):Int):=by rw[eG]<;>omega
 have Q:((k:Int)<8)=True:=ag5;have hl:=Y (8*i+k);generalize S (8*i+k)=T at *
 have B7:(T.length+1)*16<=140737488355328:=an
 have xU:(T.length+1)*4<=140737488355328:=an
 have oZ:=zwA (T.map (·.1))
 have tC:(∀f∈c T,f.length=1)=True:=by rw[q];exact zGR (λp:List UInt8×Int=>V.int .u32 p.2) T
 obtain⟨A,E⟩:=bb (T++[(w,v)])
 have vw:A.length=T.length+1:=by simp[E]
 have CF:cB (T.map (·.1))++[[.str w]]=cB (A.map (·.1)):=by simp[cB,E]
 have Ae:c T++[[.int .u32 v]]=c A:=by rw[q,q];simp[E]
 have U:8*i+(k+1)=8*i+k+1:=rfl
 cases B:(m==(a:Int)) with
 | false =>
  rw[if_neg (by rintro⟨h,_⟩;simp[h] at B)] at b
  simp[Q,D,B,P,s,U,b,aw,ak,-aab]
 | true =>
  cases C:(v !=1000000) with
  | false =>
   rw[if_neg (by rintro⟨_,h⟩;simp at C;exact h C)] at b
   simp[Q,D,B,y,O,C,P,s,U,b,aw,ak,-aab]
  | true =>
   rw[if_pos ⟨by simpa using B,by simpa using C⟩] at b;simp only[Option.toList,<-E] at b;simp[Q,D,B,y,O,z,C,P,s,U,b,B7,xU,oZ,tC,J,vw,CF,Ae,aw,ak,-aab]
def zul(a:Nat):(pd a).length<=100:=by have:=zwN a 32;rw[zwM] at this;omega
def zEz[dS G][dq G](a n:Nat)(b:n<4294967296):FP G 494 [.int .u32 a,.int .u32 n] (.str (cZ (pd a) n)):=by refine bt dS.agP (aad rfl) ?_;have w:=zqQ (G:=G) (EM a) (zul a) n b;have q:=zuk (G:=G) a;simp only[NV,KV] at w q;simp;refine au q ?_;simp;refine au w ?_;simp
def zwO[dS G][dq G][gg G](a:Nat)(s:List UInt8)(b:s.length<=1000000):FP G 495 [.int .u32 a,.str s] (.a_ [.int .u32 ((pg (pd a) s).getD 0:Nat),.bool (pg (pd a) s).isSome]):=by refine bt dS.agQ (aad rfl) ?_;have w:=zwL (G:=G) (EM a) (zul a) s b;have q:=zuk (G:=G) a;simp only[NV,KV] at w q;simp;refine au q ?_;simp;refine au w ?_;simp
def wk:List Nat:=[0,196608,2147221504,2147418112]
def zum{v:Nat}{s:List UInt8}(h:jI v=s)(a:s≠[]):eS s=some v:=by
 unfold jI at h;split at h
 .rename_i b;rw[<-h];exact GV b
 .exact absurd h.symm a
def zGS(v:Nat):iX v≠[]:=by
 unfold iX;split
 .simp[kK]
 .rename_i h;exact h
def zyV{v:Nat}{s:List UInt8}(h:eS s=some v):jI v=s:=by rw[jI,if_pos (BY h).1,(BY h).2]
def zEA{s:List UInt8}(a:∀v,eS s=some v->v∉wk)(d:∀j<4096,6<s.length->jI (327680+j)≠s):eS s=none:=by
 cases h:eS s with
 | none=>rfl
 | some v =>
  obtain⟨e,f⟩:=BY h;have a:=a v h;have g:=e;simp only[eh,decide_eq_true_eq] at g;simp only[wk,aar,aaA,or_false] at a;obtain⟨k,i⟩:∃k,v=327680+k:=⟨v-327680,an⟩
  have l:k<=4095:=an
  subst i
  have b:6<s.length:=by have m:=zqJ l;have c:=(BY m).2;rw[f] at c;rw[c];have:=aan.2 (zwq k);simp[kK];omega
  exact absurd (zyV h) (d k an b)
def zmF[dS G][dq G][iu G](s:List UInt8)(L:s.length<=1000000):FP G 496 [.str s] (.a_ [.int .u32 ((eS s).getD 0:Nat),.bool (eS s).isSome]):=by
 refine bt dS.agR (aad rfl) ?_;obtain⟨b,o⟩:∃b:Nat,b=327680:=⟨_,rfl⟩;obtain⟨f,c⟩:∃f:List (List V),f=wk.map λn=>[.int .u32 (n:Nat)]:=⟨_,rfl⟩
 have C:∀i,i<4->f[i]?=some [.int .u32 (wk.getD i 0:Nat)]/\wk.getD i 0<4294967296/\wk.getD i 0∈wk/\eh (wk.getD i 0)=true:=λi hi=>by
  subst c
  have:i=0\/i=1\/i=2\/i=3:=an
  rcases this with rfl|rfl|rfl|rfl<;>exact⟨rfl,ag7,ag7,ag7⟩
 have M:f.length=4:=by subst c;rfl
 simp;refine aM 4 (λi=>[(0,.str s),(4,.vs f .full),(5,.int .i64 i)]) (λ_=>[]) (λi=>∀j<i,jI (wk.getD j 0)≠s) ?_ ?_
 .simp[aw,ak,c,wk]
 intro i hi g
 rcases aag hi with a|x
 .subst a
  have p:∀v,eS s=some v->v∉wk:=by
   intro v d y;have:=zyV d;simp only[wk,aar,aaA,or_false] at y
   rcases y with rfl|rfl|rfl|rfl
   .exact g 0 ag7 (by rw[show wk.getD 0 0=0 by decide];exact this)
   .exact g 1 ag7 (by rw[show wk.getD 1 0=196608 by decide];exact this)
   .exact g 2 ag7 (by rw[show wk.getD 2 0=2147221504 by decide];exact this)
   .exact g 3 ag7 (by rw[show wk.getD 3 0=2147418112 by decide];exact this)
  simp;obtain⟨N,O⟩:=bb 4096;refine aM N (λi=>[(0,.str s),(6,.int .u32 i)]) (λ_=>[]) (λi=>∀j<i,6<s.length->jI (b+j)≠s) ?_ ?_
  .simp[aw,ak]
  intro n D z
  rcases aag D with a|E
  .subst a;have F:((n:Int)<4096)=False:=ag6;have:eS s=none:=zEA p (λj k=>by rw[<-o];exact z j an);rw[this];simp[F]
  .have e:((n:Int)<4096)=True:=ag5;have A:(n<N)=True:=eq_true E
   have q:aD .u32 327680 (n:Int)=((b+n:Nat):Int):=by unfold aD;rw[show(327680:Int)+(n:Int)=((b+n:Nat):Int) by omega];exact IntWalk.u32_in _ ⟨an,an⟩
   have B:aD .u32 (n:Int) 1=((n+1:Nat):Int):=by unfold aD;rw[show(n:Int)+1=((n+1:Nat):Int) by omega];exact IntWalk.u32_in _ ⟨an,an⟩
   have l:=znC (G:=G) (b+n) an
   by_cases r:6<s.length
   .have m:(6<(s.length:Int))=True:=ag5
    by_cases a:jI (b+n)=s
    .have d:=zum a (by intro h;rw[h] at r;simp at r);rw[d];simp[e,m,q,-aab];refine au l ?_;simp[a,q,-aab]
    .have t:(jI (b+n)==s)=false:=by simpa using a
     simp[e,m,q,-aab];refine au l ?_;simp[t,B,aw,ak,A,-aab];intro j k u
     rcases aag (aao k) with h|h
     .rw[h];exact a
     .exact z j h u
   .have m:(6<(s.length:Int))=False:=ag6;simp[e,m,B,aw,ak,A,-aab];intro j k u;exact absurd u r
 .obtain⟨w,H,P,I⟩:=C i x;have e:((i:Int)<4)=True:=ag5
  have J:aD .i64 (i:Int) 1=((i+1:Nat):Int):=by rw[eG]<;>omega
  generalize d:wk.getD i 0=v at *;have l:=znC (G:=G) v H
  by_cases a:jI v=s
  .have K:s≠[]:=by rw[<-a,jI,if_pos I];exact zGS v
   rw[zum a K];simp[e,w];refine au l ?_;simp[a,w]
  .have t:(jI v==s)=false:=by simpa using a
   simp[e,w];refine au l ?_;simp[t,J,x,aw,ak,-aab];intro j k
   rcases aag (aao k) with h|h
   .rw[List.getD_eq_getElem?_getD] at d;rw[h,d];exact a
   .exact g j h
def P4:List (List UInt8):=[[101,113],[110,101],[108,116],[108,101],[103,116],[103,101]]
def zun[eJ G]:FP G 497 [] (.vs (cB P4) .no):=by refine bt eJ.agS (aad rfl) ?_;simp[cB,P4]
def zuo{k:Nat}(h:k<6):(cB P4)[k]?=some [.str (iY k)]:=by
 have:k=0\/k=1\/k=2\/k=3\/k=4\/k=5:=an
 rcases this with rfl|rfl|rfl|rfl|rfl|rfl<;>rfl
def zup[eJ G][dq G](c:Cd)(j:c.right=true)(e:c.ok):FP G 498 [.agg c.cs] (.str (aN (la c))):=by
 refine bt eJ.agT (aad rfl) ?_;simp only[Cd.right,decide_eq_true_eq] at j;obtain⟨a,f⟩:∃a:Nat,c.arg=a:=⟨c.arg.toNat,an⟩;obtain⟨k,g⟩:∃k:Nat,c.cmp=k:=⟨c.cmp.toNat,an⟩;obtain⟨d,i⟩:∃d:List (List V),d=[[.str [48]],[.str [49]],[.str [50]],[.str [51]],[.str [52]],[.str [53]]]:=⟨_,rfl⟩
 have r:a<6:=an
 have l:d[a]?=some [.str [aa0 (48+a)]]:=by
  subst i
  have:a=0\/a=1\/a=2\/a=3\/a=4\/a=5:=an
  rcases this with rfl|rfl|rfl|rfl|rfl|rfl<;>rfl
 have m:=LG (G:=G) c.mask e.1;have o:=LG (G:=G) c.val e.2;have w:=zun (G:=G);have p:=zuo (k:=k) an;have s:=I8 c.mask;have t:=I8 c.val
 have u:(iY k).length<=2:=by unfold iY;repeat' (first|split|exact aaZ _)
 have q:aN (la c)=97::aa0 (48+a)::32::(br c.mask++32::(iY k++32::br c.val)):=by rw[la,f,g];simp[aN]
 rw[q];simp only[Cd.cs,f,g];generalize br c.mask=M at *;generalize br c.val=U at *;generalize iY (k:Int)=W at *;generalize cB P4=WW at *;simp;rw[<-i];have b:∀n:Nat,n<=400->(n<=9223372036854775807)=True:=λn h=>eq_true an;simp(disch:=(first|omega|(simp;omega))) [l,b];refine au m ?_;simp(disch:=(first|omega|(simp;omega))) [b];refine au w ?_;simp(disch:=(first|omega|(simp;omega))) [p,b]
 refine au o ?_;simp(disch:=(first|omega|(simp;omega))) [b]
def T_[eJ G](s:List UInt8)(o:Nat)(C:s.length<=1000000)(t:o<=1000001):∃o',FP G 499 [.str s,.int .i64 o] (.a_ [.str (fW 32 (s.drop o)),.int .i64 (o':Nat)])/\s.drop o'=iH 32 (s.drop o)/\o'<=1000001:=by
 by_cases h:s.length<=o
 .refine⟨o,?_,?_,t⟩
  .refine bt eJ.agU (aad rfl) ?_;have hd:s.drop o=[]:=aaq h;have u:((o:Int)<(s.length:Int))=False:=ag6;have d:((s.length:Int)<=(o:Int))=True:=ag5;rw[hd];simp;refine aM 0 (λi=>[(0,.str s),(1,.int .i64 o),(6,.int .i64 o)]) (λ_=>[]) (λ_=>True) ?_ ?_
   .simp[aw,ak]
   intro i hi _;simp[u,d,fW]
  .have hd:s.drop o=[]:=aaq h;rw[hd];rfl
 .obtain⟨l,f,m,j,v⟩:=ES 32 (s.drop o);obtain⟨w,n⟩:=bb (fW 32 (s.drop o))
  have x:iH 32 (s.drop o)=s.drop (o+w.length+1):=by rw[n];unfold iH;rw[aaD];congr 1
  rw[x];rw[<-n] at l f m j v |-
  have y:(s.drop o).length=s.length-o:=by simp
  rw[y] at l j;refine⟨o+w.length+1,?_,rfl,an⟩;refine bt eJ.agU (aad rfl) ?_;simp;refine aM w.length (λi=>[(0,.str s),(1,.int .i64 o),(6,.int .i64 (o+i:Nat))]) (λ_=>[]) (λ_=>True) ?_ ?_
  .simp[aw,ak]
  intro i hi _
  rcases aag hi with z|p
  .subst z;have d:((s.length:Int)<=(o:Int))=False:=ag6;have q:((o:Int)<=((o+w.length:Nat):Int))=True:=ag5;have r:(((o+w.length:Nat):Int)<=(s.length:Int))=True:=ag5
   have g:aD .i64 ((o+w.length:Nat):Int) 1=((o+w.length+1:Nat):Int):=by rw[eG]<;>omega
   have D:(s.drop o).take (o+w.length-o)=w:=by rw[show o+w.length-o=w.length by omega];exact f
   by_cases a:o+w.length<s.length
   .have c:=j an;rw[aal] at c;obtain⟨_,k⟩:=aae.1 c;simp[a,k,d,q,r,g,-aab];exact⟨f,an⟩
   .simp[a,d,q,r,g,-aab];exact⟨f,an⟩
  .have a:o+i<s.length:=an
   obtain⟨b,c⟩:∃b,s[o+i]?=some b:=⟨_,aaf a⟩;obtain⟨_,k⟩:=aae.1 c
   have A:b≠32:=by have:=m i p;rw[aal,c] at this;simpa using this
   have B:((b.toNat:Int) !=32)=true:=by have:b.toNat≠32:=λe=>A (UInt8.toNat_inj.1 e);simp;omega
   have g:aD .i64 ((o+i:Nat):Int) 1=((o+(i+1):Nat):Int):=by rw[eG]<;>omega
   simp[a,k,B,g,p,aw,ak,-aab]
def zCn[eJ G][dq G][gg G](s:List UInt8)(z:s.length<=1000000):FP G 500 [.str s] (.a_ [.agg ((d_ s).getD ⟨0,0,0,0⟩).cs,.bool (d_ s).isSome]):=by
 refine bt eJ.agV (aad rfl) ?_;obtain⟨l,p0,A,l1⟩:=T_ (G:=G) s 0 z an;obtain⟨U,p1,I,l2⟩:=T_ (G:=G) s l z l1;obtain⟨o,p2,W,l3⟩:=T_ (G:=G) s U z l2;obtain⟨o4,p3,d4,l4⟩:=T_ (G:=G) s o z l3;rw[aaY] at A p0;have p:∀t:List UInt8,(fW 32 t).length<=t.length:=λt=>(ES 32 t).1;have n1:=zoS (G:=G) (fW 32 (s.drop l)) (by have:=p (s.drop l);simp at this;omega);have X:=zoS (G:=G) (fW 32 (s.drop o)) (by have:=p (s.drop o);simp at this;omega)
 obtain⟨m,f⟩:=bb ((dI (fW 32 (s.drop l))).getD 0);obtain⟨v,g⟩:=bb ((dI (fW 32 (s.drop o))).getD 0)
 have J:m<18446744073709551616:=by
  rw[f]
  cases h:dI (fW 32 (s.drop l)) with
  | none=>simp
  | some n=>exact(Au h).1
 have K:v<18446744073709551616:=by
  rw[g]
  cases h:dI (fW 32 (s.drop o)) with
  | none=>simp
  | some n=>exact(Au h).1
 rw[<-f] at n1;rw[<-g] at X;obtain⟨w,L⟩:=bb (fW 32 (s.drop U));rw[<-L] at p2
 have d:∀c,d_ s=some c->∃a k:Nat,a<6/\k<6/\c=⟨a,k,m,v⟩/\w=iY k:=by
  intro c hc;obtain⟨b,Y⟩:=O6 hc;have Z:=b.1;simp only[Cd.right,decide_eq_true_eq] at Z;have M:=λx hx=>Z6 (Z1 b.1 b.2 x hx);simp only[la,aN] at Y M;simp only[aar,aaA,or_false,forall_eq_or_imp,forall_eq] at M;obtain⟨h0,B,C,q⟩:=M;have q0:=Jf (r:=br c.mask++32::(iY c.cmp++32::br c.val)) h0;have q1:=Jf (r:=iY c.cmp++32::br c.val) B;have q2:=Jf (r:=br c.val) C;have yX:fW 32 (br c.val)=br c.val:=zrM q
  rw[Y] at q0;rw[q0.2] at A;rw[A,q1.2] at I;rw[I,q2.2] at W;rw[A,q1.1,Tq b.2.1] at f;rw[W,yX,Tq b.2.2] at g;rw[I,q2.1] at L;simp only[aaj] at f g;refine⟨c.arg.toNat,c.cmp.toNat,an,an,?_,?_⟩
  .cases c;simp only at f g Z |-;subst f;subst g
   congr 1<;>omega
  .rw[L];congr 1;omega
 have df:∀a k:Nat,a<6->k<6->(⟨a,k,m,v⟩:Cd).df:=λa k ha u=>⟨by simp[Cd.right];omega,J,K⟩;have wd:=zun (G:=G);simp;refine au p0 ?_;simp;refine au p1 ?_;simp;refine au p2 ?_;simp;refine au p3 ?_;simp;refine au n1 ?_;simp;refine au X ?_;simp;obtain⟨R,y⟩:=bb (d_ s);rw[<-y];have eX:∀a k:Nat,[V.int .i64 a,.int .i64 k,.int .u64 m,.int .u64 v]=(⟨a,k,m,v⟩:Cd).cs:=λ_ _=>rfl
 refine aM 6 (λa=>[(0,.str s),(2,.ptr 0 0),(8,.str w),(12,.int .u64 m),(14,.int .u64 v),(16,.int .i64 a)]) (λ_=>[some (.cells [.int .i64 0,.int .i64 0,.int .u64 0,.int .u64 0])])
  (λa=>∀i k:Nat,i<a->k<6->R≠some ⟨i,k,m,v⟩) ?_ ?_
 .simp[aw,ak,ax.cl,ba,V.cl]
 intro a ha iI
 rcases aag ha with N|zA
 .subst N
  have hn:R=none:=by
   cases h:R with
   | none=>rfl
   | some c =>
    obtain⟨i,k,B,C,q,O⟩:=d c (by rw[<-y,h]);exact absurd (by rw[h,q]) (iI i k B C)
  rw[hn];simp[Cd.cs]
 have ca:((a:Int)<6)=True:=ag5
 have a0:aD .i64 (a:Int) 1=((a+1:Nat):Int):=by rw[eG]<;>omega
 simp[ca]
 refine aM 6 (λk=>[(0,.str s),(2,.ptr 0 0),(8,.str w),(12,.int .u64 m),(14,.int .u64 v),(16,.int .i64 a),(17,.int .i64 k)]) (λ_=>[some (.cells [.int .i64 0,.int .i64 0,.int .u64 0,.int .u64 0])])
  (λk=>∀j:Nat,j<k->R≠some ⟨a,j,m,v⟩) ?_ ?_
 .simp[aw,ak,ax.cl,ba,V.cl]
 intro k u Ua
 rcases aag u with N|D
 .subst N;simp[a0,zA,aw,ak,ax.cl,ba,V.cl,-aab];intro i k hi u
  rcases aag (aao hi) with h|h
  .rw[h];exact Ua k u
  .exact iI i k h u
 have ck:((k:Int)<6)=True:=ag5
 have k0:aD .i64 (k:Int) 1=((k+1:Nat):Int):=by rw[eG]<;>omega
 have P:=zuo D;have b:=df a k zA D;have E:=zup (G:=G) ⟨a,k,m,v⟩ b.1 b.2;obtain⟨T,Q⟩:=bb (aN (la ⟨a,k,m,v⟩));rw[<-Q] at E
 have yi:R≠some ⟨a,k,m,v⟩->∀j:Nat,j<k+1->R≠some ⟨a,j,m,v⟩:=by
  intro h j hj
  rcases aag (aao hj) with e|e
  .rw[e];exact h
  .exact Ua j e
 generalize cB P4=WW at *;simp only[Cd.cs] at E;simp[ck];refine au wd ?_
 cases F:(w==iY k) with
 | false =>
  have S:R≠some ⟨a,k,m,v⟩:=by
   intro h;obtain⟨i,j,B,C,q,O⟩:=d _ (by rw[<-y,h]);simp only[Cd.mk.injEq] at q
   have:j=k:=an
   rw[this] at O;simp[O] at F
  simp[P,F,k0,D,aw,ak,ax.cl,ba,V.cl,-aab]
  exact yi S
 | true =>
  cases H:(T==s) with
  | false =>
   have S:R≠some ⟨a,k,m,v⟩:=by intro h;have:=(O6 (y▸h)).2;rw[<-Q] at this;simp[this] at H
   simp[P,F];refine au E ?_;simp[H,k0,D,aw,ak,ax.cl,ba,V.cl,-aab]
   exact yi S
  | true =>
   have nN:R=some ⟨a,k,m,v⟩:=by rw[y];exact zwt b (by rw[<-Q];simpa using H)
   rw[nN];simp[P,F];refine au E ?_;simp[H,Cd.cs]
def zCo[eJ G][dq G][dS G][iu G][fJ G](r:Ru)(d:r.cM):FP G 501 [.agg r.cs] (.str (aN (qQ r))):=by
 refine bt fJ.agW (aad rfl) ?_;obtain⟨p,y,z,q,N⟩:=B5 d;have s:=znC (G:=G) r.act (Lt q);rw[jI,if_pos q] at s;have B:=zxS (G:=G) r.aC y;have D:=zEz (G:=G) r.aC r.nr z;have O:=To EK (v:=r.aC);have Q:=To (EM r.aC) (v:=r.nr);have R:=zwr (v:=r.act);have t:=zrQ r;obtain⟨T,e⟩:∃T:Nat->List UInt8,∀i,T i=Dl r i:=⟨_,λ_=>rfl⟩
 have E:∀i,i<=r.conds.length->(T i).length<=80+50*i:=λi hi=>by rw[e];exact zt9 r i hi
 have F:∀i c,r.conds[i]?=some c->T (i+1)=T i++(32::xS i++32::Lw c):=λi c h=>by rw[e,e];exact zrR h
 have f:T r.conds.length=aN (qQ r):=by rw[e];exact zB2 r
 rw[<-f];rw[<-e] at t;generalize cZ qe r.aC=M at *;generalize cZ (pd r.aC) r.nr=C at *;generalize iX r.act=A at *
 have H:T 0=111::110::32::(M++32::(C++32::A)):=by rw[t];simp
 have a:∀n:Nat,n<=400->(n<=9223372036854775807)=True:=λn h=>eq_true an;simp only[Ru.cs];simp;refine au B ?_;simp(disch:=(first|omega|(simp;omega))) [a];refine au D ?_;simp(disch:=(first|omega|(simp;omega))) [a];refine au s ?_;simp(disch:=(first|omega|(simp;omega))) [a];refine aM r.conds.length (λi=>[(1,.ptr 0 0),(3,.str (T i)),(4,.int .i64 i)]) (λ_=>[some (.cells r.cs)]) (λ_=>True) ?_ ?_
 .simp[aw,ak,H,Ru.cs]
 intro i hi _
 by_cases b:i<r.conds.length
 .obtain⟨x,I⟩:=bb (r.conds[i])
  have d:r.conds[i]?=some x:=by rw[aaf b,I]
  have u:=aah d;have g:=Th d
  have j:(CL r.conds)[i]'(by simpa using b)=x.cs:=by rw[aaf (by simpa using b)] at g;exact Option.some.inj g
  have k:=zup (G:=G) x (p x u).1 (p x u).2;have l:=F i x d;have S:=E i hi;have J:=zt8 x
  have K:aD .i64 (i:Int) 1=((i+1:Nat):Int):=by rw[eG]<;>omega
  have L:((i:Int)<(r.conds.length:Int))=True:=ag5;rw[show Lw x=aN (la x) from rfl] at l J;simp only[Cd.cs] at k g j;generalize aN (la x)=P at *
  by_cases w:i=0
  .subst w
   have m:T 0++32::105::102::32::P=T (0+1):=by rw[l];simp[xS]
   simp(disch:=(first|omega|(simp;omega))) [b,j,Ru.cs,a];refine au k ?_;simp(disch:=(first|omega|(simp;omega))) [m,a,aw,ak,b,show aD .i64 0 1=1 by decide,-aab]
  .have o:((i:Int)==0)=false:=by simp;omega
   have m:T i++32::97::110::100::32::P=T (i+1):=by rw[l];simp[xS,w]
   simp(disch:=(first|omega|(simp;omega))) [L,j,o,Ru.cs,a];refine au k ?_;simp(disch:=(first|omega|(simp;omega))) [m,a,aw,ak,K,b,-aab]
 .have:i=r.conds.length:=an
  subst this;simp[Ru.cs]
def zr9:∀(l:List Cd) (k:Nat),(ja k l).length=5*l.length
 | [],k=>rfl
 | c::l,k=>by
  simp only[ja,aai,aaH,zr9 l (k+1)];simp[la];omega
def zp6:∀(j k:Nat) (l:List Cd),(ja k l).drop (5*j)=ja (k+j) (l.drop j)
 | 0,k,l=>rfl
 | j+1,k,[]=>by simp[ja]
 | j+1,k,c::l=>by
  rw[show 5*(j+1)=5*j+5 by omega];simp only[ja,la,aax,aaW,aat];rw[zp6 j (k+1) l]
  congr 1;omega
def znE{s:List UInt8}{y:Ru}(h:v7 s=some y):y.cM/\∃M C A,gY 32 s=[111,110]::M::C::A::ja 0 y.conds/\pg qe M=some y.aC/\pg (pd y.aC) C=some y.nr/\eS A=some y.act:=by obtain⟨a,b⟩:=TI h;obtain⟨f,c,d,e,g⟩:=B5 a;exact⟨a,_,_,_,b.symm,Lr EK c,Lr (EM _) d,GV e⟩
def zCp{s:List UInt8}{y:Ru}(h:v7 s=some y){j:Nat}(f:j<y.conds.length){a b c d:List UInt8}{r:List (List UInt8)}(e:(gY 32 s).drop (4+5*j+1)=a::b::c::d::r) :
  d_ (aN [a,b,c,d])=some y.conds[j]:=by
 obtain⟨g,M,C,A,i,_⟩:=znE h;rw[i,show 4+5*j+1=(5*j+1)+4 by omega] at e;simp only[aat] at e;rw[<-aaD,zp6,aav f] at e;simp only[ja,aax,aat,aaY] at e;have k:=(B5 g).1 _ (aaO f)
 have:[a,b,c,d]=la y.conds[j]:=by have:=congrArg (List.take 4) e;simpa[la] using this.symm
 rw[this];exact Z8 k
def zCq[gX G][eJ G][dq G][gg G][dS G][iu G][fJ G](s:List UInt8)(hs:s.length<=20000):FP G 502 [.str s] (.a_ [.agg ((v7 s).getD ⟨0,0,[],0⟩).cs,.bool (v7 s).isSome]):=by
 refine bt fJ.agX (aad rfl) ?_;have Z:=zwC (G:=G) s 32 an;rw[show((aaL 32:Nat):Int)=32 from rfl] at Z;obtain⟨w,t⟩:=bb (gY 32 s);obtain⟨R,H⟩:=bb (v7 s)
 have Ck:aN w=s:=by rw[t];exact TG s
 have hp:∀x∈w,gK x:=by rw[t];exact TH s
 have u:∀x∈w,x.length<=20000:=by
  intro x m
  have:∀(l:List (List UInt8)),x∈l->x.length<=(aN l).length:=by
   intro l
   induction l with
   | nil=>simp
   | cons v l ih =>
    intro h
    rcases aar.1 h with rfl|h
    .exact ET (x::l)
    .have:=ih h;have:=zmg v l;omega
  have:=this w m;rw[Ck] at this;omega
 have hb:=zoO w;rw[Ck] at hb;rw[<-t] at Z;rw[<-H]
 have e:∀y,R=some y->4<=w.length/\w.length<=24/\(w.length-4)%5=0/\w.length=4+5*y.conds.length:=by intro y p;obtain⟨hg,M,C,A,O,_⟩:=znE (H▸p);have h4:=(B5 hg).2.2.2.2;rw[t,O];simp only[aai,zr9];omega
 simp;refine au Z ?_;have zero:V.a_ [.agg [.int .u32 0,.int .u32 0,.vs [] .no,.int .u32 0],.bool false]=.a_ [.agg ((none:Option Ru).getD ⟨0,0,[],0⟩).cs,.bool (none:Option Ru).isSome]:=rfl
 by_cases c1:w.length<4
 .have k:R=none:=by
   cases h:R with
   | none=>rfl
   | some y=>have:=e y h;omega
  have P:((w.length:Int)<4)=True:=ag5;rw[k,<-zero];simp[P]
 have P:((w.length:Int)<4)=False:=ag6
 by_cases c2:24<w.length
 .have k:R=none:=by
   cases h:R with
   | none=>rfl
   | some y=>have:=e y h;omega
  have Uc:(24<(w.length:Int))=True:=ag5;rw[k,<-zero];simp[P,Uc]
 have Uc:(24<(w.length:Int))=False:=ag6
 have e1:bP .i64 (w.length:Int) 4=((w.length-4:Nat):Int):=by rw[nQ an an];omega
 have e2:fU ((w.length-4:Nat):Int) 5=(((w.length-4)%5:Nat):Int):=vH (b:=5)
 by_cases c3:(w.length-4)%5=0
 rotate_left
 .have k:R=none:=by
   cases h:R with
   | none=>rfl
   | some y=>have:=e y h;omega
  have O7:((((w.length-4)%5:Nat):Int) !=0)=true:=by simp;omega
  rw[k,<-zero];simp[P,Uc,e1,e2,O7,-aaP]
 have O7:((((w.length-4)%5:Nat):Int) !=0)=false:=by simp;omega
 obtain⟨N,hN⟩:∃N,w.length=4+5*N:=⟨(w.length-4)/5,an⟩
 have hq:N<=4:=an
 obtain⟨w0,M,C,A,WR,z⟩:∃w0 M C A WR,w=w0::M::C::A::WR:=by
  match w,c1 with
  | a::b::c::d::r,_=>exact⟨a,b,c,d,r,rfl⟩
  | [],h=>simp at h
  | [_],h=>simp at h
  | [_,_],h=>simp at h
  | [_,_,_],h=>simp at h
 have pM:=zr7 (G:=G) M (by have:=u M (by rw[z];simp);omega);obtain⟨a,B⟩:=bb ((pg qe M).getD 0);have pC:=zwO (G:=G) a C (by have:=u C (by rw[z];simp);omega);obtain⟨n,k⟩:=bb ((pg (pd a) C).getD 0);have pA:=zmF (G:=G) A (by have:=u A (by rw[z];simp);omega);obtain⟨v,hv⟩:=bb ((eS A).getD 0);rw[<-B] at pM;rw[<-k] at pC;rw[<-hv] at pA;have g1:(cB w)[1]?=some [.str M]:=Du (by rw[z];rfl)
 have g2:(cB w)[2]?=some [.str C]:=Du (by rw[z];rfl);have g3:(cB w)[3]?=some [.str A]:=Du (by rw[z];rfl)
 have g:∀y,R=some y->pg qe M=some y.aC/\pg (pd y.aC) C=some y.nr/\eS A=some y.act/\y.cM/\qQ y=w/\y.conds.length=N:=by intro y p;obtain⟨hg,M',C',A',O,I,E,J⟩:=znE (H▸p);have hl:=(e y p).2.2.2;rw[<-t,z] at O;simp only[List.cons.injEq] at O;obtain⟨_,rfl,rfl,rfl,_⟩:=O;exact⟨I,E,J,hg,by rw[t];exact(TI (H▸p)).2,an⟩
 obtain⟨q,K⟩:=bb (cB w)
 have Q:q.length=w.length:=by rw[K];simp
 rw[<-K] at Z g1 g2 g3 |-;simp[P,Uc,e1,e2,O7,Q,g1,-aaP];refine au pM ?_;simp[g2];refine au pC ?_;simp[g3];refine au pA ?_;obtain⟨b1,jC⟩:=bb ((pg qe M).isSome);obtain⟨b2,iR⟩:=bb ((pg (pd a) C).isSome);obtain⟨b3,tw⟩:=bb ((eS A).isSome);rw[<-jC,<-iR,<-tw]
 by_cases aV:b1=true/\b2=true/\b3=true
 rotate_left
 .have k:R=none:=by
   cases h:R with
   | none=>rfl
   | some y =>
    obtain⟨I,E,J,_⟩:=g y h;rw[I] at B jC;simp only[aaj] at B;rw[<-B] at E;rw[E] at iR;rw[J] at tw;exact absurd ⟨jC,iR,tw⟩ aV
  rw[k,<-zero]
  cases b1<;>cases b2<;>cases b3<;>first|(exact absurd ⟨rfl,rfl,rfl⟩ aV)|simp
 obtain⟨rfl,rfl,rfl⟩:=aV;obtain⟨a',n8⟩:=aak.1 jC.symm;rw[n8] at B;simp only[aaj] at B;subst B;obtain⟨n',yQ⟩:=aak.1 iR.symm;rw[yQ] at k;simp only[aaj] at k;subst k;obtain⟨v',Dp⟩:=aak.1 tw.symm;rw[Dp] at hv;simp only[aaj] at hv;subst hv;have U:=(BY Dp).1;simp
 refine xe (S:=List Cd) (λcs=>N-cs.length) (λcs=>[(0,.str s),(2,.ptr 0 0),(4,.vs q .no),(5,.ptr 1 0),(12,.int .i64 (4+5*cs.length:Nat))])
  (λcs=>[some (.cells [.int .u32 0,.int .u32 0,.vs [] .full,.int .u32 0]),some (.cells [.int .u32 a,.int .u32 n,.vs (CL cs) (.own 2),.int .u32 v]),some (.zone cs.length)])
  (λcs=>cs.length<=N/\(∀c∈cs,c.df)/\∀y,R=some y->y.conds.take cs.length=cs) [] ?_ ?_
 .refine⟨⟨aap _,ir,λy _=>by simp⟩,?_,?_⟩
  .simp[aw]
  .simp[ak,ax.cl,ba,V.cl,Tk.cl,CL]
 rintro cs ⟨p1,p2,p3⟩
 by_cases ah:cs.length<N
 .have hL:((4+5*cs.length:Nat):Int)<(w.length:Int):=an
  obtain⟨o,ho⟩:=bb (4+5*cs.length)
  obtain⟨x1,x2,x3,x4,xr,m⟩:∃x1 x2 x3 x4 xr,w.drop (o+1)=x1::x2::x3::x4::xr:=by
   have hl:4<=(w.drop (o+1)).length:=by simp;omega
   match w.drop (o+1),hl with
   | a::b::c::d::r,_=>exact⟨a,b,c,d,r,rfl⟩
  have gx:∀i x,(x1::x2::x3::x4::xr)[i]?=some x->w[o+1+i]?=some x:=λi x h=>by rw[<-aal,m];exact h
  have y1:=gx 0 x1 rfl;have y2:=gx 1 x2 rfl;have y3:=gx 2 x3 rfl;have y4:=gx 3 x4 rfl;have k1:=u x1 (aah y1);have k2:=u x2 (aah y2);have k3:=u x3 (aah y3);have k4:=u x4 (aah y4)
  have z1:q[o+1]?=some [.str x1]:=by rw[K];exact Du y1
  have z2:q[o+2]?=some [.str x2]:=by rw[K];exact Du y2
  have z3:q[o+3]?=some [.str x3]:=by rw[K];exact Du y3
  have z4:q[o+4]?=some [.str x4]:=by rw[K];exact Du y4
  have q1:=(aae.1 z1).2;have q2:=(aae.1 z2).2;have q3:=(aae.1 z3).2;have q4:=(aae.1 z4).2
  have i1:aD .i64 (o:Int) 1=((o+1:Nat):Int):=by rw[eG]<;>omega
  have i2:aD .i64 (o:Int) 2=((o+2:Nat):Int):=by rw[eG]<;>omega
  have i3:aD .i64 (o:Int) 3=((o+3:Nat):Int):=by rw[eG]<;>omega
  have i4:aD .i64 (o:Int) 4=((o+4:Nat):Int):=by rw[eG]<;>omega
  have i5:aD .i64 (o:Int) 5=((o+5:Nat):Int):=by rw[eG]<;>omega
  have wT:aN [x1,x2,x3,x4]=x1++32::(x2++32::(x3++32::x4)):=by simp[aN]
  have F:=zCn (G:=G) (aN [x1,x2,x3,x4]) (by rw[wT];simp;omega);rw[wT] at F
  have JL:∀y,R=some y->d_ (x1++32::(x2++32::(x3++32::x4)))=y.conds[cs.length]?:=by intro y p;have hh:=(g y p).2.2.2.2.2;have:=zCp (H▸p) (j:=cs.length) an (r:=xr) (a:=x1) (b:=x2) (c:=x3) (d:=x4) (by rw[<-t,<-ho];exact m);rw[wT] at this;rw[this,aaf an]
  obtain⟨D,hD⟩:∃D,D=d_ (x1++32::(x2++32::(x3++32::x4))):=⟨_,rfl⟩;rw[<-hD] at F JL;rw[<-ho] at hL |-;have W:((o:Int)<(w.length:Int))=True:=eq_true hL;have s1:(x1.length+1<=9223372036854775807)=True:=ag5;have b9:∀n:Nat,n<=100000->(n<=9223372036854775807)=True:=λn h=>eq_true an
  have l1:((o+1:Nat):Int)<(w.length:Int):=an
  have jN:((cs.length+1)*32<=140737488355328)=True:=ag5;have GX:(∀f∈CL cs,f.length=4)=True:=eq_true (by intro f hf;simp only[CL,aas] at hf;obtain⟨y,_,rfl⟩:=hf;rfl)
  cases X:D with
  | none =>
   have k:R=none:=by
    cases h:R with
    | none=>rfl
    | some y =>
     have:=JL y h;have hh:=(g y h).2.2.2.2.2;rw[X,aaf an] at this;cases this
   rw[X] at F;rw[k,<-zero];simp(disch:=(first|omega|(simp;omega))) [W,Q,q1,q2,q3,q4,i1,i2,i3,i4,b9,-aab];refine au F ?_
   simp[Cd.cs]
  | some c =>
   have eF:CL cs++[c.cs]=CL (cs++[c]):=by simp[CL]
   rw[X] at F;simp only[aaj,Cd.cs,aaI] at F eF;simp(disch:=(first|omega|(simp;omega))) [W,Q,q1,q2,q3,q4,i1,i2,i3,i4,b9,-aab];refine au F ?_;simp(disch:=(first|omega|(simp;omega))) [jN,GX,eF,i5,-aab];refine⟨cs++[c],?_,⟨by simp;omega,?_,?_⟩,?_,?_⟩
   .simp;omega
   .intro x m
    rcases aaX.1 m with m|m
    .exact p2 x m
    .rw[aaJ.1 m];exact(O6 (hD▸X)).1
   .intro y p;have h1:=JL y p;rw[X] at h1;rw[aaH,List.length_singleton,aau,p3 y p,<-h1];rfl
   .have e5:o+5=4+5*(cs.length+1):=an
    simp[aw,e5,-aab,-aaB]
   .simp[ak,ax.cl,ba,V.cl,Tk.cl]
 .have hj:cs.length=N:=an
  have W:(((4+5*cs.length:Nat):Int)<(w.length:Int))=False:=ag6
  have hk:cs.length<=4:=an
  have m:(⟨a,n,cs,v⟩:Ru).cM:=by refine⟨?_,λc L=>(p2 c L).2,(Tr n8).1,(Tr yQ).1,Lt U⟩;simp only[jq,Bool.and_eq_true,decide_eq_true_eq,List.all_eq_true];exact⟨⟨λc L=>(p2 c L).1,U⟩,hk⟩
  have pL:=zCo (G:=G) ⟨a,n,cs,v⟩ m;obtain⟨T,hT⟩:=bb (aN (qQ ⟨a,n,cs,v⟩));rw[<-hT] at pL;simp only[Ru.cs] at pL
  cases Y:(T==s) with
  | true =>
   have hr:R=some ⟨a,n,cs,v⟩:=by
    rw[H];refine zwx m ?_
    have:aN (qQ ⟨a,n,cs,v⟩)=s:=by rw[<-hT];simpa using Y
    rw[<-this,zEf (zEg _) (zz7 m)]
   rw[hr];simp[W,Q,-aab];refine au pL ?_
   simp[Y,Ru.cs]
  | false =>
   have k:R=none:=by
    cases h:R with
    | none=>rfl
    | some y =>
     obtain⟨I,E,J,hg,hm,hl⟩:=g y h;have L:=p3 y h;rw[hj,<-hl,aay] at L;rw[n8] at I;cases I;rw[yQ] at E;cases E;rw[Dp] at J;cases J
     have:aN (qQ y)=s:=by rw[hm,Ck]
     rw[<-L] at hT;rw[hT,this] at Y;simp at Y
   rw[k,<-zero];simp[W,Q,-aab];refine au pL ?_;simp[Y]
def z8:List (List UInt8)->Nat
 | []=>0
 | w::r=>w.length+1+z8 r
def zqR(m:UInt8):∀s,z8 (gY m s)=s.length+1
 | []=>rfl
 | b::s=>by
  have a:=zqR m s;unfold gY;split
  .simp only[z8,a,aaT,aai];omega
  .cases h:gY m s with
   | nil=>exact absurd h (Dq m s)
   | cons w r =>
    rw[h] at a;simp only[z8,aai] at a |-;omega
def znF[gX G][eJ G][dq G][gg G][dS G][iu G][fJ G](S:List UInt8)(ha:S.length<=20000):FP G 503 [.str S] (pO (ee S)):=by
 refine bt fJ.agY (aad rfl) ?_;have R:(20000<(S.length:Int))=False:=ag6;obtain⟨T,Ch⟩:=bb (ee S);rw[<-Ch];have J:=zwC (G:=G) S 10 an;rw[show((aaL 10:Nat):Int)=10 from rfl] at J;obtain⟨L,hL⟩:=bb (gY 10 S);have Ha:=zqR 10 S;have ay:=Dq 10 S;rw[<-hL] at J Ha ay;obtain⟨A,m⟩:=bb (cB L)
 have n:A.length=L.length:=by rw[m];simp
 rw[<-m] at J;have h0:0<L.length:=aan.2 ay
 have zz:∀l:List (List UInt8),l.length<=z8 l:=λl=>by
  induction l with
  | nil=>simp
  | cons w l ih=>simp only[z8,aai];omega
 have hb:=zz L;simp[R];refine au J ?_;simp
 refine xe (S:=Nat×Nat×List Ru×Option Nat) (λq=>L.length-q.1) (λq=>[(0,.str S),(2,.ptr 0 0),(5,.ptr 1 0),(6,.vs A .no),(7,.int .i64 (q.2.1:Nat)),(8,.bool q.2.2.2.isSome),(9,.int .i64 (q.1:Nat))])
  (λq=>[some (.cells [.vs [] .full,.int .u32 0]),some (.cells [.vs (RL q.2.2.1) (.own 2),.int .u32 (q.2.2.2.getD 0:Nat)]),some (.zone q.2.2.1.length)])
  (λq=>q.1<L.length/\q.2.2.1.length<=64/\q.2.1+z8 (L.drop q.1)=S.length+1/\vg q.2.1 q.2.2.1 q.2.2.2 (L.drop q.1)=T) (0,0,[],none) ?_ ?_
 .refine⟨⟨h0,ir,by simpa using Ha,by rw[Ch,hL];rfl⟩,?_,?_⟩
  .simp[aw]
  .simp[ak,ax.cl,ba,V.cl,Tk.cl,RL]
 rintro⟨i,o,rs,dn⟩ ⟨p1,p2,p3,p4⟩;simp only at p1 p2 p3 p4 |-;obtain⟨w,hw⟩:=bb (L[i])
 have W:L[i]?=some w:=by rw[aaf p1,hw]
 have g:A[i]?=some [.str w]:=by rw[m];exact Du W
 rw[aav p1,<-hw] at p3 p4;simp only[z8] at p3;have p:((i:Int)<(L.length:Int))=True:=ag5
 have s:bP .i64 (L.length:Int) 1=((L.length-1:Nat):Int):=by rw[nQ an an];omega
 have i3:aD .i64 (i:Int) 1=((i+1:Nat):Int):=by rw[eG]<;>omega
 have wl:w.length<=20000:=an
 have c:∀k:Nat,T=(mz,o,k)->pO T=.a_ [.agg [.vs [] .no,.int .u32 0],.int .i64 o,.int .i64 k]:=λk h=>by rw[h];rfl
 by_cases yX:i+1=L.length
 .have X:L.drop (i+1)=[]:=aaq an;rw[X] at p3 p4;simp only[z8,vg,if_true] at p3 p4
  have j:((i:Int)==((L.length-1:Nat):Int))=true:=by simp;omega
  by_cases B:w=[]
  .rw[if_pos B] at p4
   have K:(w==[])=true:=by simpa using B
   have ho:o=S.length:=by rw[B] at p3;simp at p3;omega
   cases dn with
   | none =>
    simp only at p4;rw[c 5 p4.symm,ho]
    simp[n,p,s,j,g,K]
   | some v =>
    simp only at p4;rw[<-p4];simp[n,p,s,j,g,K,pO,Po.cs]
  .rw[if_neg B] at p4
   have K:(w==[])=false:=by simpa using B
   rw[c 2 p4.symm];simp[n,p,s,j,g,K]
 have X:L.drop (i+1)≠[]:=by intro h;have:=congrArg List.length h;simp at this;omega
 have j:((i:Int)==((L.length-1:Nat):Int))=false:=by simp;omega
 simp only[vg,if_neg X] at p4
 cases Gg:dn with
 | some v =>
  rw[Gg] at p4;simp only at p4;rw[c 2 p4.symm]
  simp[n,p,s,j]
 | none =>
  subst Gg;simp only at p4;have e:=zCq (G:=G) w wl
  have a1:aD .i64 (o:Int) (w.length:Int)=((o+w.length:Nat):Int):=by rw[eG]<;>omega
  have a2:aD .i64 ((o+w.length:Nat):Int) 1=((o+w.length+1:Nat):Int):=by rw[eG]<;>omega
  have kU:o+w.length+1+z8 (L.drop (i+1))=S.length+1:=an
  cases hl:v7 w with
  | some x =>
   rw[hl] at e p4;simp only[aaj,aaI] at e p4
   by_cases xO:64<=rs.length
   .rw[if_pos xO] at p4;have Y:(64<=(rs.length:Int))=True:=ag5;rw[c 3 p4.symm];simp only[Ru.cs] at e;simp[n,p,s,j,g];refine au e ?_;simp[Y,RL]
   .rw[if_neg xO] at p4;have Y:(64<=(rs.length:Int))=False:=ag6;have jN:((rs.length+1)*40<=140737488355328)=True:=ag5;have GX:(∀f∈RL rs,f.length=4)=True:=eq_true (by intro f t;simp only[RL,aas] at t;obtain⟨y,_,rfl⟩:=t;rfl)
    have eF:RL rs++[x.cs]=RL (rs++[x]):=by simp[RL]
    have xP:(RL rs).length=rs.length:=by simp[RL]
    simp only[Ru.cs] at e eF;simp[n,p,s,j,g];refine au e ?_;simp[Y,jN,GX,eF,xP,g,a1,a2,i3,-aab];refine⟨(i+1,o+w.length+1,rs++[x],none),?_,⟨by simp only;omega,by simp;omega,kU,p4⟩,?_,?_⟩
    .simp only;omega
    .simp[aw]
    .simp[ak,ax.cl,ba,V.cl,Tk.cl]
  | none =>
   rw[hl] at e p4;simp only[aaw,Option.isSome_none] at e p4;have M:=zwC (G:=G) w 32 an;rw[show((aaL 32:Nat):Int)=32 from rfl] at M;obtain⟨U,Z⟩:=bb (gY 32 w);have C:=Dq 32 w;have LU:=zqR 32 w;rw[<-Z] at M C LU;have hc:=zz U;have Ud:0<U.length:=aan.2 C;obtain⟨D,N⟩:=bb (cB U)
   have E:D.length=U.length:=by rw[N];simp
   rw[<-N] at M;obtain⟨z,O⟩:=bb (U[U.length-1])
   have gz:D[U.length-1]?=some [.str z]:=by rw[N];exact Du (by rw[aaf an,O])
   obtain⟨f,t⟩:=bb (U[0])
   have gf:D[0]?=some [.str f]:=by rw[N];exact Du (by rw[aaf Ud,t])
   have zl:z.length<=20001:=by
    have:∀l:List (List UInt8),∀x∈l,x.length<=z8 l:=λl=>by
     induction l with
     | nil=>simp
     | cons v l ih =>
      intro x hx
      rcases aar.1 hx with rfl|hx
      .simp only[z8];omega
      .have:=ih x hx;simp only[z8];omega
    have:=this U z (by rw[O];exact aaO _);omega
   have pA:=zmF (G:=G) z an
   have u1:bP .i64 (U.length:Int) 1=((U.length-1:Nat):Int):=by rw[nQ an an];omega
   obtain⟨d,hd⟩:=bb (pJ w);rw[<-hd] at p4
   have Cl:∀v,d=some v->U.length=2/\f=[100,101,102,97,117,108,116]/\eS z=some v:=by
    intro v hv;obtain⟨h1,u⟩:=TJ (hd▸hv);rw[<-Z] at u
    have gC:U.length=2:=by rw[<-u];rfl
    refine⟨gC,?_,?_⟩
    .rw[t];simp only[<-u];rfl
    .have:z=iX v:=by rw[O];simp only[<-u];rfl
     rw[this];exact GV h1
   have P_:∀v,U.length=2->f=[100,101,102,97,117,108,116]->eS z=some v->d=some v:=by
    intro v h1 u h3;rw[hd];refine zyJ (BY h3).1 ?_;rw[<-Z,I_,(BY h3).2]
    obtain⟨a,b,GK⟩:∃a b,U=[a,b]:=by
     match U,h1 with
     | [a,b],_=>exact⟨a,b,rfl⟩
    have fa:f=a:=by rw[t];simp[GK]
    have zb:z=b:=by rw[O];simp[GK]
    rw[GK,<-fa,<-zb,u]
   simp only[Ru.cs] at e;simp[n,p,s,j,g];refine au e ?_;simp[g];refine au M ?_;simp[E,u1,gz];refine au pA ?_
   by_cases F:U.length=2
   .have H:((U.length:Int) !=2)=false:=by simp;omega
    by_cases P:f=[100,101,102,97,117,108,116]
    .have Q:(f==[100,101,102,97,117,108,116])=true:=by simpa using P
     cases hA:eS z with
     | some v =>
      rw[P_ v F P hA] at p4;simp only at p4;simp[E,H,Q,gf,g,a1,a2,i3,-aab];refine⟨(i+1,o+w.length+1,rs,some v),?_,⟨by simp only;omega,p2,kU,p4⟩,?_,?_⟩
      .simp only;omega
      .simp[aw]
      .simp[ak,ax.cl,ba,V.cl,Tk.cl]
     | none =>
      have I:d=none:=by
       cases h:d with
       | none=>rfl
       | some v=>have:=(Cl v h).2.2;rw[hA] at this;cases this
      rw[I] at p4;rw[c 2 p4.symm];simp[E,H,Q,gf]
    .have Q:(f==[100,101,102,97,117,108,116])=false:=by simpa using P
     have I:d=none:=by
      cases h:d with
      | none=>rfl
      | some v=>exact absurd (Cl v h).2.1 P
     rw[I] at p4;rw[c 2 p4.symm];simp[E,H,Q,gf]
   .have H:((U.length:Int) !=2)=true:=by simp;omega
    have I:d=none:=by
     cases h:d with
     | none=>rfl
     | some v=>exact absurd (Cl v h).1 F
    rw[I] at p4;rw[c 2 p4.symm];simp[E,H]
def pN(p:Po):Nat:=p.rules.length+(p.rules.map λr=>r.conds.length).sum
def zqS:∀(l:List (List UInt8)) (o:Nat) (rs:List Ru) (a:Option Nat),(∀r∈rs,r.cM)->rs.length<=64->(∀v,a=some v->eh v=true) ->
  ((vg o rs a l).1.rules.length<=64/\(∀r∈(vg o rs a l).1.rules,r.cM))/\((vg o rs a l).2.2=0->l≠[]->eh (vg o rs a l).1.cC=true)
 | [],o,rs,a,h,c,e=>by simp[vg,mz]
 | w::r,o,rs,a,h,c,e=>by
  have z:(mz.rules.length<=64/\∀r∈mz.rules,r.cM):=by simp[mz]
  unfold vg;split
  .split
   .split
    .exact⟨z,ir⟩
    .rename_i v;exact⟨⟨c,h⟩,λ_ _=>e v rfl⟩
   .exact⟨z,ir⟩
  .rename_i f;split
   .exact⟨z,ir⟩
   .split
    .rename_i x g;split
     .exact⟨z,ir⟩
     .have:=zqS r (o+w.length+1) (rs++[x]) none (λy b=>by
       rcases aaX.1 b with b|b
       .exact h y b
       .rw[aaJ.1 b];exact(TI g).1) (by simp;omega) ir
      exact⟨this.1,λd _=>this.2 d f⟩
    .split
     .rename_i v i;have:=zqS r (o+w.length+1) rs (some v) h c (λy b=>by cases b;exact(TJ i).1);exact⟨this.1,λd _=>this.2 d f⟩
     .exact⟨z,ir⟩
def zoT(S:List UInt8):((ee S).1.rules.length<=64/\∀r∈(ee S).1.rules,r.cM)/\((ee S).2.2=0->eh (ee S).1.cC=true):=by have:=zqS (gY 10 S) 0 [] none ir ir ir;exact⟨this.1,λh=>this.2 h (Dq 10 S)⟩
def Qa:∀l:List Nat,(∀x∈l,x<=4)->l.sum<=4*l.length
 | [],_=>by simp
 | a::l,h=>by
  have:=Qa l (λx b=>h x (by simp[b]));have:=h a ir;simp only[List.sum_cons,aai];omega
def zAi[gX G][eJ G][dq G][gg G][dS G][iu G][fJ G][pq G](S:List UInt8)(b:S.length<=20000):FP G 504 [.str S] (.int .i64 (pN (ee S).1:Nat)):=by
 refine bt pq.agZ (aad rfl) ?_;have f:=znF (G:=G) S b;obtain⟨⟨B,g⟩,_⟩:=zoT S;generalize n:(ee S).1=p at *
 have o:pO (ee S)=.a_ [.agg [.vs (RL p.rules) .no,.int .u32 (p.cC:Int)],.int .i64 ((ee S).2.1:Nat),.int .i64 ((ee S).2.2:Nat)]:=by rw[pO,n];rfl
 rw[o] at f;obtain⟨N,c⟩:∃N:Nat->Nat,∀i,N i=p.rules.length+((p.rules.take i).map λr=>r.conds.length).sum:=⟨_,λ_=>rfl⟩
 have q:N 0=p.rules.length:=by rw[c];simp
 have d:∀i r,p.rules[i]?=some r->N (i+1)=N i+r.conds.length:=λi r h=>by rw[c,c,aau,h];simp;omega
 have s:∀i,N i<=64+4*64:=λi=>by
  rw[c]
  have:=Qa ((p.rules.take i).map λr=>r.conds.length) (λx a=>by
   simp only[aas] at a;obtain⟨r,t,rfl⟩:=a
   exact(B5 (g r (aaG t))).2.2.2.2)
  rw[List.length_map,aaN] at this;omega
 have e:pN p=N p.rules.length:=by rw[c,aay];rfl
 rw[e];simp;refine au f ?_;simp;refine aM p.rules.length (λi=>[(3,.ptr 0 0),(6,.int .i64 (N i:Nat)),(7,.int .i64 i)]) (λ_=>[some (.cells [.vs (RL p.rules) .no,.int .u32 (p.cC:Int)])]) (λ_=>True) ?_ ?_
 .simp[aw,ak,ax.cl,ba,V.cl,Tk.cl,q]
 intro i hi _
 have j:(RL p.rules).length=p.rules.length:=by simp[RL]
 rcases aag hi with u|k
 .subst u;simp[j]
 .obtain⟨x,a⟩:∃x,p.rules[i]?=some x:=⟨_,aaf k⟩
  have l:(RL p.rules)[i]?=some x.cs:=by simp[RL,a]
  have v:((i:Int)<(p.rules.length:Int))=True:=ag5
  have w:aD .i64 (i:Int) 1=((i+1:Nat):Int):=by rw[eG]<;>omega
  have y:=d i x a;have C:=s i;have D:=(B5 (g x (aah a))).2.2.2.2
  have z:aD .i64 (N i:Int) (x.conds.length:Int)=((N (i+1):Nat):Int):=by rw[y,eG]<;>omega
  have A:(CL x.conds).length=x.conds.length:=by simp[CL]
  have m:=(aae.1 l).2;simp only[Ru.cs] at l m;simp[j,v,m,A,w,z,k,aw,ak,ax.cl,ba,V.cl,Tk.cl,-aab]
noncomputable def Fa(S:List UInt8)(T:Nat)(x y z:Int):Bool:=decide (2000<S.length\/8<pN (ee S).1\/3000<T\/4<x\/25<y\/3<z)
def zsa[gX G][eJ G][dq G][gg G][dS G][iu G][fJ G][pq G][qS G](S:List UInt8)(tab:List (List V))(x y z:Int) :
  FP G 505 [.str S,.vs tab .no,.agg [.int .i64 x,.int .i64 y,.int .i64 z]] (.bool (Fa S tab.length x y z)):=by
 refine bt qS.ag0 (aad rfl) ?_
 by_cases f:2000<S.length
 .have b:(2000<(S.length:Int))=True:=ag5
  have:Fa S tab.length x y z=true:=by simp[Fa,f]
  rw[this];simp[b]
 .have b:(2000<(S.length:Int))=False:=ag6;have h:=zAi (G:=G) S an
  have e:Fa S tab.length x y z=(decide (8<pN (ee S).1)||decide (3000<tab.length)||decide (4<x)||decide (25<y)||decide (3<z)):=by rw[Bool.eq_iff_iff];simp[Fa,f,or_assoc]
  rw[e];generalize pN (ee S).1=n at *;simp[b];refine au h ?_
  by_cases c:8<n
  .have a:(8<(n:Int))=True:=ag5;simp[a,c]
  have a:(8<(n:Int))=False:=ag6
  by_cases g:3000<tab.length
  .have d:(3000<(tab.length:Int))=True:=ag5;simp[a,c,g,d]
  have d:(3000<(tab.length:Int))=False:=ag6
  by_cases i:4<x<;>by_cases j:25<y<;>simp[a,c,g,d,i,j]
end Go.Ev
