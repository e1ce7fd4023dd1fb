/- A policy read off any text: contract. -/
import Derived.Test.YtbkhoemaobbplaaGreatDoorParCW
set_option linter.defProp false
set_option linter.unusedSimpArgs false
set_option linter.unusedVariables false
set_option maxHeartbeats 32000000
set_option maxRecDepth 10000
open Int renaming natCast_add->aab
open List renaming getElem?_eq_getElem->aad,length_cons->aaf,length_pos_iff->aag,getElem?_drop->aaj,mem_map->aal,length_nil->aam
open Nat renaming le_of_ble_eq_true->aae,zero_le->aai
open Option renaming getD_none->aah
open UInt8 renaming toNat->aan
namespace Go.Ev
open Go Go.RowKit
variable {G:aP}
def SZ:V:=.agg [.vs [] .no,.int .u32 0]
def pX(r:IB):V:=.bf [.agg r.1.cs,.int .i64 (r.2.1:Nat),.int .i64 (r.2.2:Nat)]
def zGe(w:List UInt8):gG 32 w=gu (gG 32 w) []::aZ (gG 32 w):=by
 have:=Cq 32 w
 cases h:gG 32 w with
 | nil=>exact absurd h this
 | cons a b=>rfl
def zvm[cW G][bS G][dm G][c_ G][gD G][dX G](S:List UInt8)(ha:S.length<=20000):FP G 467 [.str S] (pX (fU S)):=by
 refine bA dX.aeY (aae rfl) ?_;have he:(20000<(S.length:Int))=False:=af9;obtain⟨T,Bu⟩:=ax (fU S);rw[<-Bu];simp[he]
 refine wq (S:=Nat×Nat×List Ru×Option Nat) (λs=>S.length-(s.1+s.2.1)) (λs=>[(0,.str S),(2,.ptr 0 0),(5,.ptr 1 0),(6,.int .i64 (s.1:Nat)),(7,.bool s.2.2.2.isSome),(20,.ptr 2 0)])
  (λs=>[some (.cells [.vs [] .full,.int .u32 0]),some (.cells [.vs (RL s.2.2.1) (.own 3),.int .u32 (s.2.2.2.getD 0:Nat)]),some (.dF S (s.1+s.2.1)),some (.zone s.2.2.1.length)])
  (λs=>s.1<=S.length/\s.2.1<=(fE 10 (S.drop s.1)).length/\s.2.2.1.length<=64/\uD s.1 s.2.2.1 s.2.2.2 (gG 10 (S.drop s.1))=T) (0,0,[],none) ?_ ?_
 .refine⟨⟨aai _,aai _,ir,by rw[Bu];rfl⟩,?_,?_⟩
  .simp[au]
  .simp[ak,az.cl,a_,V.cl,Tk.cl,RL]
 rintro⟨o,j,rs,B⟩ ⟨p1,p2,p3,p4⟩;simp only at p1 p2 p3 p4 |-;obtain⟨w1,w2,w3,w4,w5⟩:=DR 10 (S.drop o)
 have sZ:(S.drop o).length=S.length-o:=by simp
 rw[Zv] at p4
 have pE:h_ 10 (S.drop o)=S.drop (o+(fE 10 (S.drop o)).length+1):=by unfold h_;rw[List.drop_drop];congr 1
 rw[pE,sZ] at p4;obtain⟨w,U⟩:=ax (fE 10 (S.drop o));rw[<-U] at p2 p4 w1 w2 w3 w4 w5;rw[sZ] at w1 w4;have hg:∀i,o<=i->i<o+w.length->S[i]?≠some 10:=λi J F h=>w3 (i-o) an (by rw[aaj,show o+(i-o)=i by omega];exact h)
 have K:o+w.length<S.length->S[o+w.length]?=some 10:=λh=>by have:=w4 an;rwa[aaj] at this
 by_cases hj:j<w.length
 .obtain⟨r,n,u,hr,hn,jz⟩:=Zj (t:=S) (m:=10) aga (i:=o+j) (k:=o+w.length) an an (λi J F=>hg i an F) K
  have h5:o+j<S.length:=an
  have cM:((r:Int) !=10)=true:=by have q:r≠10:=hr;simp;omega
  simp[h5,u,cM,-aab];refine⟨(o,j+n,rs,B),?_,⟨p1,by rw[<-U];simp only;omega,p3,?_⟩,?_,?_⟩
  .simp only;omega
  .simp only;rw[Zv,<-U,sZ,pE,<-U];exact p4
  .simp[au]
  .simp[ak,az.cl,a_,V.cl,Tk.cl,Nat.add_assoc]
 have L:j=w.length:=an
 subst L
 by_cases g:o+w.length<S.length
 .rw[if_pos an] at p4;obtain⟨q,M⟩:=ax (o+w.length);have u:=Is (K g) aga;rw[<-M] at u g p4 |-
  have N:(S.drop o).take (q-o)=w:=by rw[show q-o=w.length by omega];exact w2
  have O:((o:Int)<=(q:Int))=True:=af8;have P:((q:Int)<=(S.length:Int))=True:=af8
  have e3:aB .i64 (q:Int) 1=((q+1:Nat):Int):=by rw[eB]<;>omega
  have W:=Cq 10 (S.drop (q+1));obtain⟨dv,X⟩:∃dv:Int,dv=((B.getD 0:Nat):Int):=⟨_,rfl⟩;obtain⟨D,z⟩:∃D:List UInt8->Bool->Bool->ae,∀s e d,D s e d=[some (.cells [.vs [] .full,.int .u32 0]),some (.cells [.vs (RL rs) (.own 3),.int .u32 dv]),some (.dF S (q+1)),some (.zone rs.length),some (.cells [.str s,.bool e,.bool d])]:=⟨_,λ_ _ _=>rfl⟩
  have hh:∀s e d,gV (D s e d):=λs e d m hm=>by
   rw[z] at hm |-;simp only[aaf,aam] at hm;simp[az.cl,a_,V.cl,Tk.cl,show 3<m by omega]
  have Y:∀s e d s' e' d',fk (D s e d) 4 s' e' d'=D s' e' d':=λs e d s' e' d'=>by rw[z,z];rfl
  have Z:∀s e d,uC (D s e d) 4 s e d:=λs e d=>⟨by rw[z];rfl,hh s e d⟩;obtain⟨f,hf⟩:=ax (gu (gG 32 w) []);obtain⟨ws,vr⟩:=ax (aZ (gG 32 w))
  have a:gG 32 w=f::ws:=by rw[hf,vr];exact zGe w
  have Q:∀x∈ws,fX x:=λx hx=>SA w x (by rw[a];simp[hx])
  have L:aO (f::ws)=w:=by rw[<-a];exact Sz w
  have hz:(aO ws).length<=w.length:=by rw[<-L];exact Zn f ws
  have q1:=Iw (G:=G) (H:=D w false false) (b:=4) (l:=[]) (ws:=f::ws) (d:=false) (by rw[<-a];exact SA w) (by
   rw[show eD [] (f::ws)=w by rw[eD,if_neg ir,L],show bn (f::ws)=false by simp[bn]];exact Z w false false) (by rw[L];omega)
  rw[show gu (f::ws) []=f from rfl,show aZ (f::ws)=ws from rfl,show bn (f::ws)=false by simp[bn],Y,Bool.or_false] at q1
  have IX:T=(l9,o,2)->pX T=.bf [SZ,.int .i64 o,.int .i64 2]:=λh=>by rw[h];rfl
  rw[<-X]
  by_cases CS:f=[111,110]/\B=none
  .obtain⟨p,rfl⟩:=CS;simp only[aah] at X;simp only[uD,W,if_false] at p4;have EG:uC (D (eD f ws) (bn ws) false++[none]) 4 (eD f ws) (bn ws) false:=(Z _ _ _).Iv (λn=>rfl);obtain⟨s,e,C,x,c,g1,g2⟩:=zCq (G:=G) Q EG an;rw[Sq (by rw[z];simp),Y] at c;have iQ:((rs.length+1)*40<=140737488355328)=True:=af8;have FX:(∀f∈RL rs,f.length=4)=True:=eq_true (by intro f hf;simp only[RL,aal] at hf;obtain⟨y,_,rfl⟩:=hf;rfl)
   have dV:RL rs++[x.cs]=RL (rs++[x]):=by simp[RL]
   have y6:(f==[111,110])=true:=by simpa using p
   simp only[z,Ru.cs,List.cons_append,List.nil_append] at q1 c dV
   cases hb:C with
   | true =>
    have E:vt w=none:=FU λy hy=>g2 hb y hy.1.1 hy.1.2 (by rw[hy.2,a,p])
    have hd:o6 w=none:=by
     cases h:o6 w with
     | none=>rfl
     | some v=>have:=zs4 h;rw[a] at this;rw[show gu (f::ws) []=f from rfl,p] at this;cases this
    rw[E,hd] at p4;simp only at p4;rw[hb] at c;rw[IX p4.symm,SZ];simp[g,u,N,O,P,-aab];refine cN q1 ?_;simp[y6,-aab];refine cN c ?_
    simp[iQ,FX,dV,e3,-aab]
   | false =>
    obtain⟨x1,x2,x3⟩:=g1 hb;have E:vt w=some x:=zvd ⟨x1,x2⟩ (by rw[x3,a,p]);rw[E] at p4;simp only at p4;rw[hb] at c;simp[g,u,N,O,P,-aab];refine cN q1 ?_;simp[y6,-aab];refine cN c ?_
    by_cases ti:64<=rs.length
    .rw[if_pos ti] at p4
     have Bv:rs.length=64:=an
     rw[<-p4];simp[Bv,pX,l9,Po.cs,RL,-aab]
    .rw[if_neg ti] at p4
     have hk:((rs.length:Int)==64)=false:=by simp;omega
     simp[hk,iQ,FX,dV,e3,-aab];refine⟨(q+1,0,rs++[x],none),?_,⟨by simp only;omega,aai _,by simp;omega,?_⟩,?_,?_⟩
     .simp only;omega
     .simp only;rw[M];rw[M] at p4;exact p4
     .simp[au]
     .simp[ak,az.cl,a_,V.cl,Tk.cl,X]
  by_cases OJ:f=[100,101,102,97,117,108,116]/\B=none
  .obtain⟨p,rfl⟩:=OJ;simp only[aah] at X;simp only[uD,W,if_false] at p4
   have E:vt w=none:=by
    cases h:vt w with
    | none=>rfl
    | some v=>have:=zq3 h;rw[a] at this;rw[show gu (f::ws) []=f from rfl,p] at this;cases this
   rw[E] at p4;simp only at p4;have c:=Iw (G:=G) Q (Z (eD f ws) (bn ws) false) an;obtain⟨A,hA⟩:=ax (gu ws []);have lA:=DU ws;rw[<-hA] at c lA;rw[Y,Bool.false_or] at c;have pA:=zl1 (G:=G) A an;have m1:=Zm (G:=G) (Z (eD (gu ws f) (aZ ws)) (bn (aZ ws)) (bn ws)) (if eE A=none then 2 else 0);rw[DW,Y] at m1
   have y6:(f==[100,101,102,97,117,108,116])=true:=by simpa using p
   have hs:(f==[111,110])=false:=by rw[p];rfl
   have cu:bn ws=false->(eE A).isNone=false->bn (aZ ws)=true->∃v,eE A=some v/\o6 w=some v:=by
    intro a1 a2 a3;obtain⟨v,R⟩:=Option.isSome_iff_exists.1 (by rw[<-Option.not_isNone,a2];rfl);refine⟨v,R,zxd (Bm R).1 ?_⟩;rw[a,IA,(Bm R).2,p]
    cases ws with
    | nil=>simp[bn] at a1
    | cons y r =>
     have:r=[]:=of_decide_eq_true a3;rw[this,hA];rfl
   have C:bn ws=true\/(eE A).isNone=true\/bn (aZ ws)=false->o6 w=none:=by
    intro h
    cases hd:o6 w with
    | none=>rfl
    | some v =>
     obtain⟨d1,d2⟩:=SC hd;rw[a,IA] at d2
     injection d2 with _ d2
     rw[<-d2] at h hA
     have:eE A=some v:=by rw[hA];exact FW d1
     rw[this] at h;simp[bn,aZ] at h
   simp only[z] at q1 c m1;simp only[jS] at pA;generalize eD (gu ws f) (aZ ws)=s1 at *;simp[g,u,N,O,P,-aab];refine cN q1 ?_;simp[y6,hs,-aab];refine cN c ?_;simp[-aab];refine aw pA ?_;simp[-aab];refine cN m1 ?_
   cases a1:bn ws<;>cases a2:(eE A).isNone<;>cases a3:bn (aZ ws)
   rotate_left
   .obtain⟨v,R,hd⟩:=cu a1 a2 a3;rw[hd] at p4;simp only at p4;simp[R,e3,-aab];refine⟨(q+1,0,rs,some v),?_,⟨by simp only;omega,aai _,p3,?_⟩,?_,?_⟩
    .simp only;omega
    .simp only;rw[M];rw[M] at p4;exact p4
    .simp[au]
    .simp[ak,az.cl,a_,V.cl,Tk.cl]
   all_goals
    rw[C (by rw[a1,a2,a3];simp)] at p4;simp only at p4;rw[IX p4.symm,SZ];simp[-aab]
  .have hp:T=(l9,o,2):=by
    rw[<-p4]
    cases B with
    | some v=>simp only[uD,W,if_false]
    | none =>
     simp only[uD,W,if_false]
     have E:vt w=none:=by
      cases h:vt w with
      | none=>rfl
      | some v=>have:=zq3 h;rw[a] at this;exact absurd ⟨this,rfl⟩ CS
     have hd:o6 w=none:=by
      cases h:o6 w with
      | none=>rfl
      | some v=>have:=zs4 h;rw[a] at this;exact absurd ⟨this,rfl⟩ OJ
     rw[E,hd]
   rw[IX hp,SZ];simp only[z] at q1
   cases B with
   | some v =>
    simp[g,u,N,O,P,-aab];refine cN q1 ?_
    cases J:(f==[111,110])<;>cases F:(f==[100,101,102,97,117,108,116])<;>simp[J,F,-aab]
   | none =>
    have J:(f==[111,110])=false:=by simpa using λh=>CS ⟨h,rfl⟩
    have F:(f==[100,101,102,97,117,108,116])=false:=by simpa using λh=>OJ ⟨h,rfl⟩
    simp[g,u,N,O,P,-aab];refine cN q1 ?_;simp[J,F,-aab]
 .rw[if_neg an] at p4
  have ht:o+w.length=S.length:=an
  simp only[uD,if_true] at p4
  by_cases I:w=[]
  .rw[if_pos I] at p4
   have ho:o=S.length:=by rw[<-ht,I];simp
   subst ho
   cases B with
   | none =>
    simp only at p4;rw[<-p4]
    simp[g,I,pX,l9,Po.cs,RL]
   | some v =>
    simp only at p4;rw[<-p4];simp[g,I,pX,Po.cs]
  .rw[if_neg I] at p4;have Ff:((o:Int)<(S.length:Int))=True:=eq_true (by have:=aag.2 I;omega);rw[<-p4];simp[g,Ff,pX,l9,Po.cs,RL]
def zo:List (List UInt8)->Nat
 | []=>0
 | w::r=>w.length+1+zo r
def zp4(m:UInt8):∀s,zo (gG m s)=s.length+1
 | []=>rfl
 | b::s=>by
  have a:=zp4 m s;unfold gG;split
  .simp only[zo,a,aam,aaf];omega
  .cases h:gG m s with
   | nil=>exact absurd h (Cq m s)
   | cons w r =>
    rw[h] at a;simp only[zo,aaf] at a |-;omega
def zyn[jC G][eX G][dB G][g7 G][ej G][jO G][gE G](S:List UInt8)(ha:S.length<=20000):FP G 503 [.str S] (pX (fU S)):=by
 refine bA gE.afg (aae rfl) ?_;have R:(20000<(S.length:Int))=False:=af9;obtain⟨T,Bu⟩:=ax (fU S);rw[<-Bu];have J:=zvh (G:=G) S 10 an;rw[show((aan 10:Nat):Int)=10 from rfl] at J;obtain⟨L,hL⟩:=ax (gG 10 S);have Gc:=zp4 10 S;have aC:=Cq 10 S;rw[<-hL] at J Gc aC;obtain⟨A,m⟩:=ax (cf L)
 have n:A.length=L.length:=by rw[m];simp
 rw[<-m] at J;have h0:0<L.length:=aag.2 aC
 have yA:∀l:List (List UInt8),l.length<=zo l:=λl=>by
  induction l with
  | nil=>simp
  | cons w l ih=>simp only[zo,aaf];omega
 have hb:=yA L;simp[R];refine aw J ?_;simp
 refine wq (S:=Nat×Nat×List Ru×Option Nat) (λq=>L.length-q.1) (λq=>[(0,.str S),(2,.ptr 0 0),(5,.ptr 1 0),(6,.vs A .no),(7,.int .i64 (q.2.1:Nat)),(8,.bool q.2.2.2.isSome),(9,.int .i64 (q.1:Nat))])
  (λq=>[some (.cells [.vs [] .full,.int .u32 0]),some (.cells [.vs (RL q.2.2.1) (.own 2),.int .u32 (q.2.2.2.getD 0:Nat)]),some (.zone q.2.2.1.length)])
  (λq=>q.1<L.length/\q.2.2.1.length<=64/\q.2.1+zo (L.drop q.1)=S.length+1/\uD q.2.1 q.2.2.1 q.2.2.2 (L.drop q.1)=T) (0,0,[],none) ?_ ?_
 .refine⟨⟨h0,ir,by simpa using Gc,by rw[Bu,hL];rfl⟩,?_,?_⟩
  .simp[au]
  .simp[ak,az.cl,a_,V.cl,Tk.cl,RL]
 rintro⟨i,o,rs,dn⟩ ⟨p1,p2,p3,p4⟩;simp only at p1 p2 p3 p4 |-;obtain⟨w,hw⟩:=ax (L[i])
 have W:L[i]?=some w:=by rw[aad p1,hw]
 have g:A[i]?=some [.str w]:=by rw[m];exact Ct W
 rw[List.drop_eq_getElem_cons p1,<-hw] at p3 p4;simp only[zo] at p3;have p:((i:Int)<(L.length:Int))=True:=af8
 have s:cL .i64 (L.length:Int) 1=((L.length-1:Nat):Int):=by rw[nC an an];omega
 have i3:aB .i64 (i:Int) 1=((i+1:Nat):Int):=by rw[eB]<;>omega
 have wl:w.length<=20000:=an
 have c:∀k:Nat,T=(l9,o,k)->pX T=.bf [.agg [.vs [] .no,.int .u32 0],.int .i64 o,.int .i64 k]:=λk h=>by rw[h];rfl
 by_cases Bh:i+1=L.length
 .have X:L.drop (i+1)=[]:=List.drop_eq_nil_of_le an;rw[X] at p3 p4;simp only[zo,uD,if_true] at p3 p4
  have j:((i:Int)==((L.length-1:Nat):Int))=true:=by simp;omega
  by_cases B:w=[]
  .rw[if_pos B] at p4
   have K:(w==[])=true:=by simpa using B
   have ho:o=S.length:=by rw[B] at p3;simp at p3;omega
   cases dn with
   | none =>
    simp only at p4;rw[c 5 p4.symm,ho]
    simp[n,p,s,j,g,K]
   | some v =>
    simp only at p4;rw[<-p4];simp[n,p,s,j,g,K,pX,Po.cs]
  .rw[if_neg B] at p4
   have K:(w==[])=false:=by simpa using B
   rw[c 2 p4.symm];simp[n,p,s,j,g,K]
 have X:L.drop (i+1)≠[]:=by intro h;have:=congrArg List.length h;simp at this;omega
 have j:((i:Int)==((L.length-1:Nat):Int))=false:=by simp;omega
 simp only[uD,if_neg X] at p4
 cases Fx:dn with
 | some v =>
  rw[Fx] at p4;simp only at p4;rw[c 2 p4.symm]
  simp[n,p,s,j]
 | none =>
  subst Fx;simp only at p4;have e:=zAc (G:=G) w wl
  have a1:aB .i64 (o:Int) (w.length:Int)=((o+w.length:Nat):Int):=by rw[eB]<;>omega
  have a2:aB .i64 ((o+w.length:Nat):Int) 1=((o+w.length+1:Nat):Int):=by rw[eB]<;>omega
  have mz:o+w.length+1+zo (L.drop (i+1))=S.length+1:=an
  cases hl:vt w with
  | some x =>
   rw[hl] at e p4;simp only[Option.getD_some,Option.isSome_some] at e p4
   by_cases ti:64<=rs.length
   .rw[if_pos ti] at p4;have Y:(64<=(rs.length:Int))=True:=af8;rw[c 3 p4.symm];simp only[Ru.cs] at e;simp[n,p,s,j,g];refine aw e ?_;simp[Y,RL]
   .rw[if_neg ti] at p4;have Y:(64<=(rs.length:Int))=False:=af9;have iQ:((rs.length+1)*40<=140737488355328)=True:=af8;have FX:(∀f∈RL rs,f.length=4)=True:=eq_true (by intro f t;simp only[RL,aal] at t;obtain⟨y,_,rfl⟩:=t;rfl)
    have dV:RL rs++[x.cs]=RL (rs++[x]):=by simp[RL]
    have xE:(RL rs).length=rs.length:=by simp[RL]
    simp only[Ru.cs] at e dV;simp[n,p,s,j,g];refine aw e ?_;simp[Y,iQ,FX,dV,xE,g,a1,a2,i3,-aab];refine⟨(i+1,o+w.length+1,rs++[x],none),?_,⟨by simp only;omega,by simp;omega,mz,p4⟩,?_,?_⟩
    .simp only;omega
    .simp[au]
    .simp[ak,az.cl,a_,V.cl,Tk.cl]
  | none =>
   rw[hl] at e p4;simp only[aah,Option.isSome_none] at e p4;have M:=zvh (G:=G) w 32 an;rw[show((aan 32:Nat):Int)=32 from rfl] at M;obtain⟨U,Z⟩:=ax (gG 32 w);have C:=Cq 32 w;have K7:=zp4 32 w;rw[<-Z] at M C K7;have hc:=yA U;have S7:0<U.length:=aag.2 C;obtain⟨D,N⟩:=ax (cf U)
   have E:D.length=U.length:=by rw[N];simp
   rw[<-N] at M;obtain⟨z,O⟩:=ax (U[U.length-1])
   have gz:D[U.length-1]?=some [.str z]:=by rw[N];exact Ct (by rw[aad an,O])
   obtain⟨f,t⟩:=ax (U[0])
   have gf:D[0]?=some [.str f]:=by rw[N];exact Ct (by rw[aad S7,t])
   have zl:z.length<=20001:=by
    have:∀l:List (List UInt8),∀x∈l,x.length<=zo l:=λl=>by
     induction l with
     | nil=>simp
     | cons v l ih =>
      intro x hx
      rcases List.mem_cons.1 hx with rfl|hx
      .simp only[zo];omega
      .have:=ih x hx;simp only[zo];omega
    have:=this U z (by rw[O];exact List.getElem_mem _);omega
   have pA:=zlX (G:=G) z an
   have u1:cL .i64 (U.length:Int) 1=((U.length-1:Nat):Int):=by rw[nC an an];omega
   obtain⟨d,hd⟩:=ax (o6 w);rw[<-hd] at p4
   have Bw:∀v,d=some v->U.length=2/\f=[100,101,102,97,117,108,116]/\eE z=some v:=by
    intro v hv;obtain⟨h1,u⟩:=SC (hd▸hv);rw[<-Z] at u
    have iI:U.length=2:=by rw[<-u];rfl
    refine⟨iI,?_,?_⟩
    .rw[t];simp only[<-u];rfl
    .have:z=iG v:=by rw[O];simp only[<-u];rfl
     rw[this];exact FW h1
   have OL:∀v,U.length=2->f=[100,101,102,97,117,108,116]->eE z=some v->d=some v:=by
    intro v h1 u h3;rw[hd];refine zxd (Bm h3).1 ?_;rw[<-Z,IA,(Bm h3).2]
    obtain⟨a,b,EF⟩:∃a b,U=[a,b]:=by
     match U,h1 with
     | [a,b],_=>exact⟨a,b,rfl⟩
    have fa:f=a:=by rw[t];simp[EF]
    have zb:z=b:=by rw[O];simp[EF]
    rw[EF,<-fa,<-zb,u]
   simp only[Ru.cs] at e;simp[n,p,s,j,g];refine aw e ?_;simp[g];refine aw M ?_;simp[E,u1,gz];refine aw pA ?_
   by_cases F:U.length=2
   .have H:((U.length:Int) !=2)=false:=by simp;omega
    by_cases P:f=[100,101,102,97,117,108,116]
    .have Q:(f==[100,101,102,97,117,108,116])=true:=by simpa using P
     cases hA:eE z with
     | some v =>
      rw[OL v F P hA] at p4;simp only at p4;simp[E,H,Q,gf,g,a1,a2,i3,-aab];refine⟨(i+1,o+w.length+1,rs,some v),?_,⟨by simp only;omega,p2,mz,p4⟩,?_,?_⟩
      .simp only;omega
      .simp[au]
      .simp[ak,az.cl,a_,V.cl,Tk.cl]
     | none =>
      have I:d=none:=by
       cases h:d with
       | none=>rfl
       | some v=>have:=(Bw v h).2.2;rw[hA] at this;cases this
      rw[I] at p4;rw[c 2 p4.symm];simp[E,H,Q,gf]
    .have Q:(f==[100,101,102,97,117,108,116])=false:=by simpa using P
     have I:d=none:=by
      cases h:d with
      | none=>rfl
      | some v=>exact absurd (Bw v h).2.1 P
     rw[I] at p4;rw[c 2 p4.symm];simp[E,H,Q,gf]
   .have H:((U.length:Int) !=2)=true:=by simp;omega
    have I:d=none:=by
     cases h:d with
     | none=>rfl
     | some v=>exact absurd (Bw v h).1 F
    rw[I] at p4;rw[c 2 p4.symm];simp[E,H]
def oT(p:Po):Nat:=p.rules.length+(p.rules.map λr=>r.conds.length).sum
def zp5:∀(l:List (List UInt8)) (o:Nat) (rs:List Ru) (a:Option Nat),(∀r∈rs,r.cu)->rs.length<=64->(∀v,a=some v->dU v=true) ->
  ((uD o rs a l).1.rules.length<=64/\(∀r∈(uD o rs a l).1.rules,r.cu))/\((uD o rs a l).2.2=0->l≠[]->dU (uD o rs a l).1.eR=true)
 | [],o,rs,a,h,c,e=>by simp[uD,l9]
 | w::r,o,rs,a,h,c,e=>by
  have z:(l9.rules.length<=64/\∀r∈l9.rules,r.cu):=by simp[l9]
  unfold uD;split
  .split
   .split
    .exact⟨z,ir⟩
    .rename_i v;exact⟨⟨c,h⟩,λ_ _=>e v rfl⟩
   .exact⟨z,ir⟩
  .rename_i f;split
   .exact⟨z,ir⟩
   .split
    .rename_i x g;split
     .exact⟨z,ir⟩
     .have:=zp5 r (o+w.length+1) (rs++[x]) none (λy b=>by
       rcases List.mem_append.1 b with b|b
       .exact h y b
       .rw[List.mem_singleton.1 b];exact(SB g).1) (by simp;omega) ir
      exact⟨this.1,λd _=>this.2 d f⟩
    .split
     .rename_i v i;have:=zp5 r (o+w.length+1) rs (some v) h c (λy b=>by cases b;exact(SC i).1);exact⟨this.1,λd _=>this.2 d f⟩
     .exact⟨z,ir⟩
def ztc(S:List UInt8):((fU S).1.rules.length<=64/\∀r∈(fU S).1.rules,r.cu)/\((fU S).2.2=0->dU (fU S).1.eR=true):=by have:=zp5 (gG 10 S) 0 [] none ir ir ir;exact⟨this.1,λh=>this.2 h (Cq 10 S)⟩
def OM:∀l:List Nat,(∀x∈l,x<=4)->l.sum<=4*l.length
 | [],_=>by simp
 | a::l,h=>by
  have:=OM l (λx b=>h x (by simp[b]));have:=h a ir;simp only[List.sum_cons,aaf];omega
def zyo[jC G][eX G][dB G][g7 G][ej G][jO G][gE G][qK G](S:List UInt8)(b:S.length<=20000):FP G 504 [.str S] (.int .i64 (oT (fU S).1:Nat)):=by
 refine bA qK.afh (aae rfl) ?_;have e:=zyn (G:=G) S b;obtain⟨⟨B,f⟩,_⟩:=ztc S;generalize m:(fU S).1=p at *
 have n:pX (fU S)=.bf [.agg [.vs (RL p.rules) .no,.int .u32 (p.eR:Int)],.int .i64 ((fU S).2.1:Nat),.int .i64 ((fU S).2.2:Nat)]:=by rw[pX,m];rfl
 rw[n] at e;obtain⟨N,c⟩:∃N:Nat->Nat,∀i,N i=p.rules.length+((p.rules.take i).map λr=>r.conds.length).sum:=⟨_,λ_=>rfl⟩
 have o:N 0=p.rules.length:=by rw[c];simp
 have d:∀i r,p.rules[i]?=some r->N (i+1)=N i+r.conds.length:=λi r h=>by rw[c,c,List.take_add_one,h];simp;omega
 have q:∀i,N i<=64+4*64:=λi=>by
  rw[c]
  have:=OM ((p.rules.take i).map λr=>r.conds.length) (λx a=>by
   simp only[aal] at a;obtain⟨r,s,rfl⟩:=a
   exact(B2 (f r (List.mem_of_mem_take s))).2.2.2.2)
  rw[List.length_map,List.length_take] at this;omega
 have t:oT p=N p.rules.length:=by rw[c,List.take_length];rfl
 rw[t];simp;refine aw e ?_;simp;refine aN p.rules.length (λi=>[(3,.ptr 0 0),(6,.int .i64 (N i:Nat)),(7,.int .i64 i)]) (λ_=>[some (.cells [.vs (RL p.rules) .no,.int .u32 (p.eR:Int)])]) (λ_=>True) ?_ ?_
 .simp[au,ak,az.cl,a_,V.cl,Tk.cl,o]
 intro i hi _
 have g:(RL p.rules).length=p.rules.length:=by simp[RL]
 rcases Nat.eq_or_lt_of_le hi with u|j
 .subst u;simp[g]
 .obtain⟨x,a⟩:∃x,p.rules[i]?=some x:=⟨_,aad j⟩
  have k:(RL p.rules)[i]?=some x.cs:=by simp[RL,a]
  have v:((i:Int)<(p.rules.length:Int))=True:=af8
  have w:aB .i64 (i:Int) 1=((i+1:Nat):Int):=by rw[eB]<;>omega
  have y:=d i x a;have C:=q i;have D:=(B2 (f x (List.mem_of_getElem? a))).2.2.2.2
  have z:aB .i64 (N i:Int) (x.conds.length:Int)=((N (i+1):Nat):Int):=by rw[y,eB]<;>omega
  have A:(CL x.conds).length=x.conds.length:=by simp[CL]
  have l:=(List.getElem?_eq_some_iff.1 k).2;simp only[Ru.cs] at k l;simp[g,v,l,A,w,z,j,au,ak,az.cl,a_,V.cl,Tk.cl,-aab]
noncomputable def E6(S:List UInt8)(T:Nat)(x y z:Int):Bool:=decide (2000<S.length\/8<oT (fU S).1\/3000<T\/4<x\/25<y\/3<z)
def zyp[jC G][eX G][dB G][g7 G][ej G][jO G][gE G][qK G][tw G](S:List UInt8)(tab:List (List V))(x y z:Int) :
  FP G 505 [.str S,.vs tab .no,.agg [.int .i64 x,.int .i64 y,.int .i64 z]] (.bool (E6 S tab.length x y z)):=by
 refine bA tw.afi (aae rfl) ?_
 by_cases f:2000<S.length
 .have b:(2000<(S.length:Int))=True:=af8
  have:E6 S tab.length x y z=true:=by simp[E6,f]
  rw[this];simp[b]
 .have b:(2000<(S.length:Int))=False:=af9;have h:=zyo (G:=G) S an
  have e:E6 S tab.length x y z=(decide (8<oT (fU S).1)||decide (3000<tab.length)||decide (4<x)||decide (25<y)||decide (3<z)):=by rw[Bool.eq_iff_iff];simp[E6,f,or_assoc]
  rw[e];generalize oT (fU S).1=n at *;simp[b];refine aw h ?_
  by_cases c:8<n
  .have a:(8<(n:Int))=True:=af8;simp[a,c]
  have a:(8<(n:Int))=False:=af9
  by_cases g:3000<tab.length
  .have d:(3000<(tab.length:Int))=True:=af8;simp[a,c,g,d]
  have d:(3000<(tab.length:Int))=False:=af9
  by_cases i:4<x<;>by_cases j:25<y<;>simp[a,c,g,d,i,j]
end Go.Ev
