/- Names by the document, of any text: contracts. -/
import Derived.Test.YtbkhoemaobbplaaGreatDoorParIW
import Derived.Test.YtbkhoemaobbplaaGreatDoorSrcAW
import Derived.Test.YtbkhoemaobbplaaGreatDoorCheckBW
set_option linter.defProp false
set_option linter.unusedSimpArgs false
set_option linter.unusedVariables false
set_option maxHeartbeats 16000000
set_option maxRecDepth 10000
open Int renaming natCast_add→aaa,natCast_mul→aax,natCast_emod→aaI
open Nat renaming le_of_ble_eq_true→aab,eq_or_lt_of_le→aaf,le_of_lt_succ→aam,le_trans→aaw,not_lt_zero→aay,le_refl→aaz,zero_le→aaN
open List renaming getElem?_eq_some_iff→aac,getElem?_eq_getElem→aae,mem_of_getElem?→aag,length_cons→aai,mem_cons→aak,drop_eq_nil_of_le→aan,length_pos_iff→aao,drop_succ_cons→aap,getElem?_drop→aaq,take_add_one→aar,drop_eq_getElem_cons→aas,take_length→aat,mem_map→aau,not_mem_nil→aav,mem_of_mem_take→aaA,length_append→aaB,mem_singleton→aaD,length_take→aaF,cons_append→aaG,getElem_mem→aaH,all_eq_true→aaJ,mem_append→aaK,drop_drop→aaL,drop_zero→aaM,range→aaP
open Option renaming getD_some→aah,isSome_iff_exists→aal,isSome_some→aaC
open Bool renaming and_eq_true→aaj
open UInt8 renaming toNat→aaE,ofNat→aaO
namespace Go.Ev
open Go Go.RowKit
variable {G:aN}
def zyt(x:Int):∃ v:Nat,v<18446744073709551616/\IntKind.u64.wrap x=(v:Int):=by refine⟨(IntKind.u64.wrap x).toNat,?_⟩;simp only[IntKind.wrap,show IntKind.u64.signed=false from rfl];simp[IntKind.bits];omega
def Yk[f_ G][db G](s:List UInt8)(hl:s.length<=1000000):FP G 487 [.str s] (.bc [.int .u64 ((di s).getD 0:Nat),.bool (di s).isSome]):=by
 refine bF f_.ae7 (aab rfl) ?_
 cases C:di s with
 | some n =>
  obtain⟨D,E⟩:=yC C;obtain⟨ds,o,p,F,h4,h5,h6⟩:=Ha n D;rw[E] at o;have j:=Jn (G:=G) n D;rw[E] at j;obtain⟨N,O⟩:∃ N,N=ds.length:=⟨_,rfl⟩
  have l:s.length=N+2:=by rw[o];simp;omega
  have e:(((N:Int)+2)<3)=False:=eq_false an;have m:(18<(N:Int)+2)=False:=eq_false an;obtain⟨a,f⟩:∃ a:Nat->Nat,∀ i,a i=gA (ds.take i):=⟨_,fun _=>rfl⟩
  have P:a N=n:=by rw[f,O,aat,F]
  have Q:a 0=0:=by rw[f];rfl
  simp(disch:=omega)[l,e,m];refine aP N (fun k=>[(0,.str s),(4,.int .u64 (a k:Nat)),(5,.int .i64 (k+2:Nat))]) (fun _=>[]) (fun _=>True) ?_ ?_
  ·simp[aq,ai,Q]
  intro k R _
  rcases aaf R with T|c
  ·subst T;have U:(((k+2:Nat):Int)<((k+2:Nat):Int))=False:=eq_false an;simp(disch:=omega)[l,U,P,aq,-aaa];refine ax j ?_;simp
  ·have V:k<ds.length:=an
   obtain⟨d,hd⟩:∃ d,d=ds[k]:=⟨_,rfl⟩
   have r:ds[k]?=some d:=by rw[aae V,hd]
   have W:d<16:=p d (aag r)
   have X:s[k+2]?=some (jz d):=by rw[o,List.getElem?_append_right ir];simp[r]
   obtain⟨FM,H⟩:=aac.1 X
   have Y:a (k+1)=16*a k+d:=by rw[f,f,aar,r];exact En _ _
   have Ch:a k*16+16<=18446744073709551616:=by
    have:=Yo k (ds.take k) (by rw[aaF];omega) (fun y Z=>p y (aaA Z));rw[<-f] at this;have p:16^k<=16^15:=Nat.pow_le_pow_right (by decide) an
    have F:(16:Nat)^15=1152921504606846976:=by decide
    omega
   have I:(((k+2:Nat):Int)<((N+2:Nat):Int))=True:=eq_true an
   have g:aD .i64 ((k+2:Nat):Int) 1=((k+1+2:Nat):Int):=by rw[dW]<;>omega
   have J:eI .u64 (a k:Int) 16=((a k*16:Nat):Int):=by unfold eI;rw[show(a k:Int)*16=((a k*16:Nat):Int) by omega];exact IntWalk.u64_in _ ⟨an,an⟩
   have K:aD .u64 ((a k*16:Nat):Int) (d:Int)=(a (k+1):Int):=by unfold aD;rw[Y,show((a k*16:Nat):Int)+(d:Int)=((16*a k+d:Nat):Int) by omega];exact IntWalk.u64_in _ ⟨an,an⟩
   by_cases SB:d<10
   ·have t:=zyT SB;have u:fB .u64 ((48+d:Nat):Int)=((48+d:Nat):Int):=IntWalk.u64_in _ ⟨an,an⟩
    have w:cM .u64 ((48+d:Nat):Int) 48=(d:Int):=by unfold cM;rw[show((48+d:Nat):Int)-48=(d:Int) by omega];exact IntWalk.u64_in _ ⟨an,an⟩
    have x:((97:Int)<=((48+d:Nat):Int))=False:=eq_false an;simp(disch:=omega)[l,I,H,t,u,w,x,J,K,g,aq,c,-aaa,-aax]
   ·have t:=zyU W an;have u:fB .u64 ((87+d:Nat):Int)=((87+d:Nat):Int):=IntWalk.u64_in _ ⟨an,an⟩
    have w:cM .u64 ((87+d:Nat):Int) 87=(d:Int):=by unfold cM;rw[show((87+d:Nat):Int)-87=(d:Int) by omega];exact IntWalk.u64_in _ ⟨an,an⟩
    have x:((97:Int)<=((87+d:Nat):Int))=True:=eq_true an
    simp(disch:=omega)[l,I,H,t,u,w,x,J,K,g,aq,c,-aaa,-aax]
 | none =>
  by_cases e:(s.length:Int)<3
  ·simp[e]
  by_cases m:18<(s.length:Int)
  ·simp[e,m]
  simp[e,m];refine uW (S:=Nat×Nat) (fun q=>s.length-q.1) (fun q=>[(0,.str s),(4,.int .u64 (q.2:Nat)),(5,.int .i64 (q.1:Nat))]) (fun _=>[]) (fun q=>q.1<=s.length/\q.2<18446744073709551616) (2,0) ?_ ?_
  ·refine⟨⟨by simp only;omega,by decide⟩,?_,?_⟩<;>simp[aq,ai]
  rintro⟨i,v⟩ ⟨p1,p2⟩;simp only at p1 p2 |-
  by_cases c:i<s.length
  ·obtain⟨b,hb⟩:∃ b,s[i]?=some b:=⟨_,aae c⟩;obtain⟨_,L⟩:=aac.1 hb
   have g:aD .i64 (i:Int) 1=((i+1:Nat):Int):=by rw[dW]<;>omega
   by_cases M:(97:Int)<=(b.toNat:Int)
   ·simp[c,L,M,g,aq,-aaa];obtain⟨z,A,B⟩:=zyt (eI .u64 (v:Int) 16+cM .u64 (fB .u64 (b.toNat:Int)) 87);exact⟨(i+1,z),by simp only;omega,⟨by simp only;omega,A⟩,by simp only[<-B];simp[aq,aD],by simp[ai]⟩
   ·simp[c,L,M,g,aq,-aaa];obtain⟨z,A,B⟩:=zyt (eI .u64 (v:Int) 16+cM .u64 (fB .u64 (b.toNat:Int)) 48);exact⟨(i+1,z),by simp only;omega,⟨by simp only;omega,A⟩,by simp only[<-B];simp[aq,aD],by simp[ai]⟩
  ·have j:=Jn (G:=G) v p2
   have ay:(bg v==s)=false:=by rw[beq_eq_false_iff_ne];exact fun h=>Nc C v ⟨p2,h⟩
   simp[c,aq];refine ax j ?_;simp[ay]
def NV(M:List (List UInt8×Int)):V:=.vs (bX (M.map (·.1))) .no
def KV(M:List (List UInt8×Int)):V:=.vs (M.map fun p=>[.int .u32 p.2]) .no
def Yp{α:Type}(f:α->Bool):∀ M:List α,∃ N,N<=M.length/\(∀ i p,i<N->M[i]?=some p->f p=false)/\(N<M.length->∃ p,M[N]?=some p/\f p=true/\M.find? f=some p)/\(N=M.length->M.find? f=none)
 | []=>⟨0,aaz _,fun i p h=>absurd h (aay _),fun h=>absurd h (aay _),fun _=>rfl⟩
 | x::M=>by
  cases a:f x with
  | true=>exact⟨0,aaN _,fun i p h=>absurd h (aay _),fun _=>⟨x,rfl,a,by simp[a]⟩,fun h=>by simp at h⟩
  | false =>
   obtain⟨N,c,d,e,g⟩:=Yp f M;refine⟨N+1,by simpa using c,?_,?_,?_⟩
   ·intro i p hi b
    cases i with
    | zero=>simp at b;subst b;exact a
    | succ i=>exact d i p an (by simpa using b)
   ·intro h;obtain⟨p,j,k,l⟩:=e (by simpa using h);exact⟨p,by simpa using j,k,by simp[a,l]⟩
   ·intro h;have:=g (by simpa using h);simp[a,this]
def Yq[dP G][db G]{M:List (List UInt8×Int)}(f:gI M)(t:M.length<=100)(n:Nat)(u:n<4294967296):FP G 490 [NV M,KV M,.int .u32 n] (.str (cG M n)):=by
 refine bF dP.afa (aab rfl) ?_;obtain⟨N,v,g,h,j⟩:=Yp (fun p:List UInt8×Int=>p.2==(n:Int)) M;have k:fB .u64 (n:Int)=(n:Int):=IntWalk.u64_in _ ⟨an,an⟩;have l:=Jn (G:=G) n an;simp[NV,KV]
 refine aP N (fun i=>[(0,.vs (bX (M.map (·.1))) .no),(1,.vs (M.map fun p=>[.int .u32 p.2]) .no),(2,.int .u32 n),(7,.int .i64 i)]) (fun _=>[]) (fun _=>True) ?_ ?_
 ·simp[aq,ai]
 intro i hi _
 rcases aaf hi with m|b
 ·subst m
  by_cases b:i<M.length
  ·obtain⟨p,a,c,o⟩:=h b
   have d:cG M n=p.1:=by
    have:nK M n=p.1:=by simp[nK,o]
    rw[cG,this,if_neg (f.cQ p (aag a)).2.1]
   obtain⟨_,e⟩:=aac.1 a;rw[d];simp[b,a,e,c,bX]
  ·have:i=M.length:=an
   subst this;have q:=j rfl
   have d:cG M n=bg n:=by simp[cG,nK,q]
   rw[d];simp[k,aq];refine ax l ?_;simp
 ·obtain⟨p,a⟩:∃ p,M[i]?=some p:=⟨_,aae an⟩;have c:=g i p b a;obtain⟨r,e⟩:=aac.1 a
  have s:aD .i64 (i:Int) 1=((i+1:Nat):Int):=by rw[dW]<;>omega
  simp[r,a,e,c,s,aq,ai,b,bX,-aaa]
def ztH[dP G][db G][f_ G]{M:List (List UInt8×Int)}(f:gI M)(x:M.length<=100)(s:List UInt8)(y:s.length<=1000000):FP G 491 [NV M,KV M,.str s] (.bc [.int .u32 ((mZ M s).getD 0:Nat),.bool (mZ M s).isSome]):=by
 refine bF dP.afb (aab rfl) ?_;obtain⟨N,F,z,A,t⟩:=Yp (fun p:List UInt8×Int=>p.1==s) M;have b:=Yk (G:=G) s y;have u:=fun n d=>Yq (G:=G) f x n d;simp only[NV,KV] at u;simp[NV,KV]
 refine aP N (fun i=>[(0,.vs (bX (M.map (·.1))) .no),(1,.vs (M.map fun p=>[.int .u32 p.2]) .no),(2,.str s),(8,.int .i64 i)]) (fun _=>[]) (fun _=>True) ?_ ?_
 ·simp[aq,ai]
 intro i hi _
 rcases aaf hi with c|e
 ·subst c
  by_cases e:i<M.length
  ·obtain⟨p,a,j,k⟩:=A e;rw[Yr k] at k;obtain⟨v,B,l⟩:=zrX f k;obtain⟨_,m⟩:=aac.1 a
   have o:p.1=s:=by simpa using j
   simp[e,a,m,o,bX,l,B]
  ·have:i=M.length:=an
   subst this;have l:=zrY f (t rfl);rw[l]
   cases d:di s with
   | none =>
    rw[d] at b;simp[aq];refine ax b ?_
    simp
   | some n =>
    rw[d] at b;have C:=(yC d).2
    by_cases q:n<4294967296
    ·have a:(4294967295<(n:Int))=False:=eq_false an;have g:fB .u32 (n:Int)=(n:Int):=IntWalk.u32_in _ ⟨an,an⟩;have w:=u n q
     by_cases c:nK M n=[]
     ·have r:cG M n=s:=by rw[cG,if_pos c,C]
      rw[r] at w;simp[aq];refine ax b ?_;simp[a,g];refine ax w ?_;simp[g,q,c]
     ·have r:(cG M n==s)=false:=by rw[beq_eq_false_iff_ne];intro h;exact c (Ys f (t rfl) h).1
      simp[aq];refine ax b ?_;simp[a,g];refine ax w ?_;simp[g,c,r]
    ·have a:(4294967295<(n:Int))=True:=eq_true an;simp[aq];refine ax b ?_;simp[a,q]
 ·obtain⟨p,a⟩:∃ p,M[i]?=some p:=⟨_,aae an⟩;have j:=z i p e a;obtain⟨D,m⟩:=aac.1 a
  have E:aD .i64 (i:Int) 1=((i+1:Nat):Int):=by rw[dW]<;>omega
  simp[D,a,m,j,E,aq,ai,e,bX,-aaa]
def Yt[dP G]:FP G 488 [] (.bc [NV oi,KV oi]):=by refine bF dP.ae8 (aab rfl) ?_;simp[NV,KV,oi,bX]
def zut[dP G][db G](a:Nat)(b:a<4294967296):FP G 492 [.int .u32 a] (.str (cG oi a)):=by refine bF dP.afc (aab rfl) ?_;have w:=Yq (G:=G) CN (by decide) a b;have q:=Yt (G:=G);simp only[NV,KV] at w q;simp;refine ax q ?_;simp;refine ax w ?_;simp
def zpN[dP G][db G][f_ G](s:List UInt8)(a:s.length<=1000000):FP G 493 [.str s] (.bc [.int .u32 ((mZ oi s).getD 0:Nat),.bool (mZ oi s).isSome]):=by refine bF dP.afd (aab rfl) ?_;have w:=ztH (G:=G) CN (by decide) s a;have q:=Yt (G:=G);simp only[NV,KV] at w q;simp;refine ax q ?_;simp;refine ax w ?_;simp
def x9:List (List Int):=[[0,1,2,3,60,57,62,9],[3,4,5,6,1,2,37,90],[63,64,1000000,57,93,1000000,129,222],[3,4,5,6,1,2,37,1000000]]
def Ak:List (List UInt8):=[Bb,Bc,Eo,Bd,Be,Ep,Bf,Er]
def qm(a i k:Nat):Option (List UInt8×Int):=if(oi.getD i ([],0)).2=(a:Int)/\(x9.getD i []).getD k 0≠1000000 then some (Ak.getD k [],(x9.getD i []).getD k 0) else none
def uu(a j:Nat):List (List UInt8×Int):=(aaP j).filterMap fun j=>qm a (j/8) (j%8)
def zyu(a i k:Nat)(d:k<8):uu a (8*i+k+1)=uu a (8*i+k)++(qm a i k).toList:=by
 have b:(8*i+k)/8=i:=an
 have c:(8*i+k)%8=k:=an
 unfold uu;rw[List.range_succ,List.filterMap_append,List.filterMap_cons,b,c]
 cases qm a i k<;>rfl
def ztI(a:Nat):uu a 32=m9 a:=by
 by_cases b:a=3221225534
 ·subst b;rfl
 by_cases c:a=1073741827
 ·subst c;rfl
 by_cases d:a=3221225655
 ·subst d;rfl
 by_cases f:a=1073741864
 ·subst f;rfl
 have i:m9 a=[]:=by simp[m9,Es,b,c,d,f]
 rw[i];unfold uu;rw[List.filterMap_eq_nil_iff];intro j g
 have g:j<32:=by simpa using g
 unfold qm;rw[if_neg];rintro⟨h,_⟩
 have:j/8=0\/j/8=1\/j/8=2\/j/8=3:=an
 rcases this with e|e|e|e<;>rw[e] at h<;>simp[oi] at h<;>omega
def ztJ(a:Nat):∀ j,(uu a j).length<=j:=fun j=>by
 unfold uu;have:=List.length_filterMap_le (fun j=>qm a (j/8) (j%8)) (aaP j);simpa using this
def zCP{β:Type}(f:β->V)(l:List β):(∀ x∈l.map (fun b=>[f b]),x.length=1)=True:=by simp only[eq_iff_iff,iff_true];intro x a;simp only[aau] at a;obtain⟨_,_,rfl⟩:=a;rfl
def zrA[dP G](a:Nat):FP G 489 [.int .u32 a] (.bc [NV (m9 a),KV (m9 a)]):=by
 refine bF dP.ae9 (aab rfl) ?_;have X:=Yt (G:=G);obtain⟨S,q⟩:∃ S:Nat->List (List UInt8×Int),∀ j,S j=uu a j:=⟨_,fun _=>rfl⟩
 have Z:∀ j,(S j).length<=j:=fun j=>by rw[q];exact ztJ a j
 have Cz:S 0=[]:=by rw[q];rfl
 have D:∀ i k,k<8->S (8*i+k+1)=S (8*i+k)++(qm a i k).toList:=fun i k h=>by rw[q,q];exact zyu a i k h
 have E:m9 a=S 32:=by rw[q];exact(ztI a).symm
 rw[E];obtain⟨d,F⟩:∃ d:List (List V),d=Ak.map fun w=>[.str w]:=⟨_,rfl⟩;obtain⟨e,H⟩:∃ e:List (List V),e=x9.map fun r=>[.vs (r.map fun n=>[.int .u32 n]) .full]:=⟨_,rfl⟩;obtain⟨g,I⟩:∃ g:List (List V),g=oi.map fun p=>[.int .u32 p.2]:=⟨_,rfl⟩
 have s:∀ M,NV M=.vs (bX (M.map (·.1))) .no:=fun _=>rfl
 have t:∀ M,KV M=.vs (M.map fun p=>[.int .u32 p.2]) .no:=fun _=>rfl
 have gN:∀ k,k<8->d[k]?=some [.str (Ak.getD k [])]:=fun k J=>by
  subst F
  have:k=0\/k=1\/k=2\/k=3\/k=4\/k=5\/k=6\/k=7:=an
  rcases this with rfl|rfl|rfl|rfl|rfl|rfl|rfl|rfl<;>rfl
 have gM:∀ i,i<4->g[i]?=some [.int .u32 (oi.getD i ([],0)).2]:=fun i hi=>by
  subst I
  have:i=0\/i=1\/i=2\/i=3:=an
  rcases this with rfl|rfl|rfl|rfl<;>rfl
 have gR:∀ i,i<4->∃ R,e[i]?=some [.vs R .full]/\∀ k,k<8->R[k]?=some [.int .u32 ((x9.getD i []).getD k 0)]:=fun i hi=>by
  subst H
  have:i=0\/i=1\/i=2\/i=3:=an
  rcases this with rfl|rfl|rfl|rfl<;>refine⟨_,rfl,fun k J=>?_⟩<;>(have:k=0\/k=1\/k=2\/k=3\/k=4\/k=5\/k=6\/k=7:=by omega)<;>rcases this with rfl|rfl|rfl|rfl|rfl|rfl|rfl|rfl<;>rfl
 have lN:d.length=8:=by subst F;rfl
 have lM:g.length=4:=by subst I;rfl
 have lR:e.length=4:=by subst H;rfl
 rw[s,t,<-I] at X;rw[s,t];obtain⟨c,l⟩:∃ c:List (List UInt8×Int)->List (List V),∀ M,c M=M.map fun p=>[.int .u32 p.2]:=⟨_,fun _=>rfl⟩
 have K:∀ M,(c M).length=M.length:=fun M=>by rw[l];simp
 rw[<-l];simp;refine ax X ?_;simp
 refine aP 4 (fun i=>[(0,.int .u32 a),(4,.vs d .full),(5,.int .u32 1000000),(6,.vs e .full),(8,.vs g .no),(9,.vs (bX ((S (8*i)).map (·.1))) (.own 0)),(10,.vs (c (S (8*i))) (.own 1)),(11,.int .i64 i)])
  (fun i=>[some (.zone (S (8*i)).length),some (.zone (S (8*i)).length)]) (fun _=>True) ?_ ?_
 ·simp[aq,ai,Cz,l,bX,F,H,Ak,x9,Bb,Bc,Eo,Bd,Be,Ep,Bf,Er]
 intro i hi _
 rcases aaf hi with L|N
 ·subst L;simp
 have vw:((i:Int)<4)=True:=eq_true an;obtain⟨R,u,O⟩:=gR i N;have B:=gM i N;obtain⟨m,Y⟩:∃ m,m=(oi.getD i ([],0)).2:=⟨_,rfl⟩;rw[<-Y] at B;simp[vw]
 refine aP 8 (fun k=>[(0,.int .u32 a),(4,.vs d .full),(5,.int .u32 1000000),(6,.vs e .full),(8,.vs g .no),(9,.vs (bX ((S (8*i+k)).map (·.1))) (.own 0)),(10,.vs (c (S (8*i+k))) (.own 1)),(11,.int .i64 i),(12,.int .i64 k)])
  (fun k=>[some (.zone (S (8*i+k)).length),some (.zone (S (8*i+k)).length)]) (fun _=>True) ?_ ?_
 ·simp[aq,ai]
 intro k J _
 have a0:aD .i64 (i:Int) 1=((i+1:Nat):Int):=by rw[dW]<;>omega
 rcases aaf J with L|o
 ·subst L
  have:8*(i+1)=8*i+8:=an
  simp[aq,ai,a0,N,this,-aaa]
 have P:=O k o;have x:=gN k o;have b:=D i k o;unfold qm at b;rw[<-Y] at b;obtain⟨v,hv⟩:∃ v,v=(x9.getD i []).getD k 0:=⟨_,rfl⟩;obtain⟨w,hw⟩:∃ w,w=Ak.getD k []:=⟨_,rfl⟩;rw[<-hv] at P b;rw[<-hw] at x b
 have Q:aD .i64 (k:Int) 1=((k+1:Nat):Int):=by rw[dW]<;>omega
 have U:((k:Int)<8)=True:=eq_true an;have hl:=Z (8*i+k);generalize S (8*i+k)=T at *
 have xU:(T.length+1)*16<=140737488355328:=an
 have uj:(T.length+1)*4<=140737488355328:=an
 have qo:=ztE (T.map (·.1))
 have s9:(∀ f∈c T,f.length=1)=True:=by rw[l];exact zCP (fun p:List UInt8×Int=>V.int .u32 p.2) T
 obtain⟨y,C⟩:∃ y,y=T++[(w,v)]:=⟨_,rfl⟩
 have vf:y.length=T.length+1:=by simp[C]
 have Dg:bX (T.map (·.1))++[[.str w]]=bX (y.map (·.1)):=by simp[bX,C]
 have Dh:c T++[[.int .u32 v]]=c y:=by rw[l,l];simp[C]
 have W:8*i+(k+1)=8*i+k+1:=rfl
 cases z:(m==(a:Int)) with
 | false =>
  rw[if_neg (by rintro⟨h,_⟩;simp[h] at z)] at b
  simp[U,B,z,Q,o,W,b,aq,ai,-aaa]
 | true =>
  cases A:(v !=1000000) with
  | false =>
   rw[if_neg (by rintro⟨_,h⟩;simp at A;exact h A)] at b
   simp[U,B,z,u,P,A,Q,o,W,b,aq,ai,-aaa]
  | true =>
   rw[if_pos ⟨by simpa using z,by simpa using A⟩] at b;simp only[Option.toList,<-C] at b;simp[U,B,z,u,P,x,A,Q,o,W,b,xU,uj,qo,s9,K,vf,Dg,Dh,aq,ai,-aaa]
def zrB(a:Nat):(m9 a).length<=100:=by have:=ztJ a 32;rw[ztI] at this;omega
def zAF[dP G][db G](a n:Nat)(b:n<4294967296):FP G 494 [.int .u32 a,.int .u32 n] (.str (cG (m9 a) n)):=by refine bF dP.afe (aab rfl) ?_;have w:=Yq (G:=G) (CO a) (zrB a) n b;have q:=zrA (G:=G) a;simp only[NV,KV] at w q;simp;refine ax q ?_;simp;refine ax w ?_;simp
def ztK[dP G][db G][f_ G](a:Nat)(s:List UInt8)(b:s.length<=1000000):FP G 495 [.int .u32 a,.str s] (.bc [.int .u32 ((mZ (m9 a) s).getD 0:Nat),.bool (mZ (m9 a) s).isSome]):=by refine bF dP.aff (aab rfl) ?_;have w:=ztH (G:=G) (CO a) (zrB a) s b;have q:=zrA (G:=G) a;simp only[NV,KV] at w q;simp;refine ax q ?_;simp;refine ax w ?_;simp
def uv:List Nat:=[0,196608,2147221504,2147418112]
def zrC{v:Nat}{s:List UInt8}(h:iS v=s)(a:s≠[]):d_ s=some v:=by
 unfold iS at h;split at h
 ·rename_i b;rw[<-h];exact D_ b
 ·exact absurd h.symm a
def zCQ(v:Nat):gW v≠[]:=by
 unfold gW;split
 ·simp[jH]
 ·rename_i h;exact h
def zvx{v:Nat}{s:List UInt8}(h:d_ s=some v):iS v=s:=by rw[iS,if_pos (z8 h).1,(z8 h).2]
def zAG{s:List UInt8}(a:∀ v,d_ s=some v->v∉uv)(d:∀ j<4096,6<s.length->iS (327680+j)≠s):d_ s=none:=by
 cases h:d_ s with
 | none=>rfl
 | some v =>
  obtain⟨e,f⟩:=z8 h;have a:=a v h;have g:=e;simp only[dE,decide_eq_true_eq] at g;simp only[uv,aak,aav,or_false] at a;obtain⟨k,i⟩:∃ k,v=327680+k:=⟨v-327680,an⟩
  have l:k<=4095:=an
  subst i
  have b:6<s.length:=by have m:=Yg l;have c:=(z8 m).2;rw[f] at c;rw[c];have:=aao.2 (ztX k);simp[jH];omega
  exact absurd (zvx h) (d k an b)
def zk8[dP G][db G][jd G](s:List UInt8)(L:s.length<=1000000):FP G 496 [.str s] (.bc [.int .u32 ((d_ s).getD 0:Nat),.bool (d_ s).isSome]):=by
 refine bF dP.afg (aab rfl) ?_;obtain⟨b,m⟩:∃ b:Nat,b=327680:=⟨_,rfl⟩;obtain⟨e,o⟩:∃ e:List (List V),e=uv.map fun n=>[.int .u32 (n:Nat)]:=⟨_,rfl⟩
 have B:∀ i,i<4->e[i]?=some [.int .u32 (uv.getD i 0:Nat)]/\uv.getD i 0<4294967296/\uv.getD i 0∈uv/\dE (uv.getD i 0)=true:=fun i hi=>by
  subst o
  have:i=0\/i=1\/i=2\/i=3:=an
  rcases this with rfl|rfl|rfl|rfl<;>exact⟨rfl,by decide,by decide,by decide⟩
 have M:e.length=4:=by subst o;rfl
 simp;refine aP 4 (fun i=>[(0,.str s),(4,.vs e .full),(5,.int .i64 i)]) (fun _=>[]) (fun i=>∀ j<i,iS (uv.getD j 0)≠s) ?_ ?_
 ·simp[aq,ai,o,uv]
 intro i hi f
 rcases aaf hi with a|w
 ·subst a
  have C:∀ v,d_ s=some v->v∉uv:=by
   intro v c x;have:=zvx c;simp only[uv,aak,aav,or_false] at x
   rcases x with rfl|rfl|rfl|rfl
   ·exact f 0 (by decide) (by rw[show uv.getD 0 0=0 by decide];exact this)
   ·exact f 1 (by decide) (by rw[show uv.getD 1 0=196608 by decide];exact this)
   ·exact f 2 (by decide) (by rw[show uv.getD 2 0=2147221504 by decide];exact this)
   ·exact f 3 (by decide) (by rw[show uv.getD 3 0=2147418112 by decide];exact this)
  simp[aq];obtain⟨N,O⟩:∃ N,N=4096:=⟨_,rfl⟩;refine aP N (fun i=>[(0,.str s),(6,.int .u32 i)]) (fun _=>[]) (fun i=>∀ j<i,6<s.length->iS (b+j)≠s) ?_ ?_
  ·simp[aq,ai]
  intro n D y
  rcases aaf D with a|E
  ·subst a;have F:((n:Int)<4096)=False:=eq_false an;have:d_ s=none:=zAG C (fun j g=>by rw[<-m];exact y j an);rw[this];simp[F,aq]
  ·have d:((n:Int)<4096)=True:=eq_true an;have z:(n<N)=True:=eq_true E
   have p:aD .u32 327680 (n:Int)=((b+n:Nat):Int):=by unfold aD;rw[show(327680:Int)+(n:Int)=((b+n:Nat):Int) by omega];exact IntWalk.u32_in _ ⟨an,an⟩
   have A:aD .u32 (n:Int) 1=((n+1:Nat):Int):=by unfold aD;rw[show(n:Int)+1=((n+1:Nat):Int) by omega];exact IntWalk.u32_in _ ⟨an,an⟩
   have k:=Yf (G:=G) (b+n) an
   by_cases q:6<s.length
   ·have l:(6<(s.length:Int))=True:=eq_true an
    by_cases a:iS (b+n)=s
    ·have c:=zrC a (by intro h;rw[h] at q;simp at q);rw[c];simp[d,l,p,aq,-aaa];refine ax k ?_;simp[a,p,-aaa]
    ·have r:(iS (b+n)==s)=false:=by simpa using a
     simp[d,l,p,aq,-aaa];refine ax k ?_;simp[r,A,aq,ai,z,-aaa];intro j g t
     rcases aaf (aam g) with h|h
     ·rw[h];exact a
     ·exact y j h t
   ·have l:(6<(s.length:Int))=False:=eq_false an;simp[d,l,A,aq,ai,z,-aaa];intro j g t;exact absurd t q
 ·obtain⟨u,H,P,I⟩:=B i w;have d:((i:Int)<4)=True:=eq_true an
  have J:aD .i64 (i:Int) 1=((i+1:Nat):Int):=by rw[dW]<;>omega
  generalize c:uv.getD i 0=v at *;have k:=Yf (G:=G) v H
  by_cases a:iS v=s
  ·have K:s≠[]:=by rw[<-a,iS,if_pos I];exact zCQ v
   rw[zrC a K];simp[d,u,aq];refine ax k ?_;simp[a,u]
  ·have r:(iS v==s)=false:=by simpa using a
   simp[d,u,aq];refine ax k ?_;simp[r,J,w,aq,ai,-aaa];intro j g
   rcases aaf (aam g) with h|h
   ·rw[List.getD_eq_getElem?_getD] at c;rw[h,c];exact a
   ·exact f j h
def Nj:List (List UInt8):=[[101,113],[110,101],[108,116],[108,101],[103,116],[103,101]]
def zrD[eD G]:FP G 497 [] (.vs (bX Nj) .no):=by refine bF eD.afh (aab rfl) ?_;simp[bX,Nj]
def zrE{k:Nat}(h:k<6):(bX Nj)[k]?=some [.str (gX k)]:=by
 have:k=0\/k=1\/k=2\/k=3\/k=4\/k=5:=an
 rcases this with rfl|rfl|rfl|rfl|rfl|rfl<;>rfl
def zrF[eD G][db G](c:Cd)(j:c.right=true)(e:c.ok):FP G 498 [.agg c.cs] (.str (aK (jS c))):=by
 refine bF eD.afi (aab rfl) ?_;simp only[Cd.right,decide_eq_true_eq] at j;obtain⟨a,f⟩:∃ a:Nat,c.arg=a:=⟨c.arg.toNat,an⟩;obtain⟨k,g⟩:∃ k:Nat,c.cmp=k:=⟨c.cmp.toNat,an⟩;obtain⟨d,i⟩:∃ d:List (List V),d=[[.str [48]],[.str [49]],[.str [50]],[.str [51]],[.str [52]],[.str [53]]]:=⟨_,rfl⟩
 have r:a<6:=an
 have l:d[a]?=some [.str [aaO (48+a)]]:=by
  subst i
  have:a=0\/a=1\/a=2\/a=3\/a=4\/a=5:=an
  rcases this with rfl|rfl|rfl|rfl|rfl|rfl<;>rfl
 have m:=Jn (G:=G) c.mask e.1;have o:=Jn (G:=G) c.val e.2;have w:=zrD (G:=G);have p:=zrE (k:=k) an;have s:=G9 c.mask;have t:=G9 c.val
 have u:(gX k).length<=2:=by unfold gX;repeat' (first|split|exact aaz _)
 have q:aK (jS c)=97::aaO (48+a)::32::(bg c.mask++32::(gX k++32::bg c.val)):=by rw[jS,f,g];simp[aK]
 rw[q];simp only[Cd.cs,f,g];generalize bg c.mask=M at *;generalize bg c.val=U at *;generalize gX (k:Int)=W at *;generalize bX Nj=WW at *;simp;rw[<-i];have b:∀ n:Nat,n<=400->(n<=9223372036854775807)=True:=fun n h=>eq_true an;simp(disch:=(first|omega|(simp;omega))) [l,b];refine ax m ?_;simp(disch:=(first|omega|(simp;omega))) [b];refine ax w ?_;simp(disch:=(first|omega|(simp;omega))) [p,b]
 refine ax o ?_;simp(disch:=(first|omega|(simp;omega))) [b]
def QQ[eD G](s:List UInt8)(o:Nat)(D:s.length<=1000000)(u:o<=1000001):∃ o',FP G 499 [.str s,.int .i64 o] (.bc [.str (eX 32 (s.drop o)),.int .i64 (o':Nat)])/\s.drop o'=gn 32 (s.drop o)/\o'<=1000001:=by
 by_cases h:s.length<=o
 ·refine⟨o,?_,?_,u⟩
  ·refine bF eD.afj (aab rfl) ?_;have hd:s.drop o=[]:=aan h;have v:((o:Int)<(s.length:Int))=False:=eq_false an;have d:((s.length:Int)<=(o:Int))=True:=eq_true an;rw[hd];simp;refine aP 0 (fun i=>[(0,.str s),(1,.int .i64 o),(6,.int .i64 o)]) (fun _=>[]) (fun _=>True) ?_ ?_
   ·simp[aq,ai]
   intro i hi _;simp[v,d,aq,eX]
  ·have hd:s.drop o=[]:=aan h;rw[hd];rfl
 ·obtain⟨l,f,m,j,x⟩:=Cs 32 (s.drop o);obtain⟨w,n⟩:∃ w,w=eX 32 (s.drop o):=⟨_,rfl⟩
  have y:gn 32 (s.drop o)=s.drop (o+w.length+1):=by rw[n];unfold gn;rw[aaL];congr 1
  rw[y];rw[<-n] at l f m j x |-
  have z:(s.drop o).length=s.length-o:=by simp
  rw[z] at l j;refine⟨o+w.length+1,?_,rfl,an⟩;refine bF eD.afj (aab rfl) ?_;simp;refine aP w.length (fun i=>[(0,.str s),(1,.int .i64 o),(6,.int .i64 (o+i:Nat))]) (fun _=>[]) (fun _=>True) ?_ ?_
  ·simp[aq,ai]
  intro i hi _
  rcases aaf hi with A|p
  ·subst A;have d:((s.length:Int)<=(o:Int))=False:=eq_false an;have q:((o:Int)<=((o+w.length:Nat):Int))=True:=eq_true an;have r:(((o+w.length:Nat):Int)<=(s.length:Int))=True:=eq_true an
   have g:aD .i64 ((o+w.length:Nat):Int) 1=((o+w.length+1:Nat):Int):=by rw[dW]<;>omega
   have t:(s.drop o).take (o+w.length-o)=w:=by rw[show o+w.length-o=w.length by omega];exact f
   by_cases c:o+w.length<s.length
   ·have a:=j an;rw[aaq] at a;obtain⟨_,k⟩:=aac.1 a;simp[c,a,k,d,q,r,g,t,aq,-aaa];exact⟨f,an⟩
   ·simp[c,d,q,r,g,t,aq,-aaa];exact⟨f,an⟩
  ·have c:o+i<s.length:=an
   obtain⟨b,a⟩:∃ b,s[o+i]?=some b:=⟨_,aae c⟩;obtain⟨_,k⟩:=aac.1 a
   have B:b≠32:=by have:=m i p;rw[aaq,a] at this;simpa using this
   have C:((b.toNat:Int) !=32)=true:=by have:b.toNat≠32:=fun e=>B (UInt8.toNat_inj.1 e);simp;omega
   have g:aD .i64 ((o+i:Nat):Int) 1=((o+(i+1):Nat):Int):=by rw[dW]<;>omega
   simp[c,a,k,C,g,p,aq,ai,-aaa]
def zyv[eD G][db G][f_ G](s:List UInt8)(z:s.length<=1000000):FP G 500 [.str s] (.bc [.agg ((dx s).getD ⟨0,0,0,0⟩).cs,.bool (dx s).isSome]):=by
 refine bF eD.afk (aab rfl) ?_;obtain⟨l,p0,A,l1⟩:=QQ (G:=G) s 0 z an;obtain⟨Q,p1,I,l2⟩:=QQ (G:=G) s l z l1;obtain⟨o,p2,S,l3⟩:=QQ (G:=G) s Q z l2;obtain⟨o4,p3,d4,l4⟩:=QQ (G:=G) s o z l3;rw[aaM] at A p0;have p:∀ t:List UInt8,(eX 32 t).length<=t.length:=fun t=>(Cs 32 t).1;have n1:=Yk (G:=G) (eX 32 (s.drop l)) (by have:=p (s.drop l);simp at this;omega);have U:=Yk (G:=G) (eX 32 (s.drop o)) (by have:=p (s.drop o);simp at this;omega)
 obtain⟨m,f⟩:∃ m,m=(di (eX 32 (s.drop l))).getD 0:=⟨_,rfl⟩;obtain⟨v,g⟩:∃ v,v=(di (eX 32 (s.drop o))).getD 0:=⟨_,rfl⟩
 have Yy:m<18446744073709551616:=by
  rw[f]
  cases h:di (eX 32 (s.drop l)) with
  | none=>simp
  | some n=>exact(yC h).1
 have Yz:v<18446744073709551616:=by
  rw[g]
  cases h:di (eX 32 (s.drop o)) with
  | none=>simp
  | some n=>exact(yC h).1
 rw[<-f] at n1;rw[<-g] at U;obtain⟨w,J⟩:∃ w,w=eX 32 (s.drop Q):=⟨_,rfl⟩;rw[<-J] at p2
 have d:∀ c,dx s=some c->∃ a k:Nat,a<6/\k<6/\c=⟨a,k,m,v⟩/\w=gX k:=by
  intro c hc;obtain⟨b,W⟩:=Nk hc;have X:=b.1;simp only[Cd.right,decide_eq_true_eq] at X;have K:=fun x hx=>YA (YB b.1 b.2 x hx);simp only[jS,aK] at W K;simp only[aak,aav,or_false,forall_eq_or_imp,forall_eq] at K;obtain⟨h0,B,C,q⟩:=K;have Y:=Hi (r:=bg c.mask++32::(gX c.cmp++32::bg c.val)) h0;have q1:=Hi (r:=gX c.cmp++32::bg c.val) B;have Z:=Hi (r:=bg c.val) C;have y7:eX 32 (bg c.val)=bg c.val:=zp5 q
  rw[W] at Y;rw[Y.2] at A;rw[A,q1.2] at I;rw[I,Z.2] at S;rw[A,q1.1,QR b.2.1] at f;rw[S,y7,QR b.2.2] at g;rw[I,Z.1] at J;simp only[aah] at f g;refine⟨c.arg.toNat,c.cmp.toNat,an,an,?_,?_⟩
  ·cases c;simp only at f g X |-;subst f;subst g
   congr 1<;>omega
  ·rw[J];congr 1;omega
 have cZ:∀ a k:Nat,a<6->k<6->(⟨a,k,m,v⟩:Cd).cZ:=fun a k ha u=>⟨by simp[Cd.right];omega,Yy,Yz⟩;have wd:=zrD (G:=G);simp;refine ax p0 ?_;simp[aq];refine ax p1 ?_;simp[aq];refine ax p2 ?_;simp[aq];refine ax p3 ?_;simp[aq];refine ax n1 ?_;simp[aq];refine ax U ?_;simp[aq];obtain⟨R,y⟩:∃ R,R=dx s:=⟨_,rfl⟩;rw[<-y];have ej:∀ a k:Nat,[V.int .i64 a,.int .i64 k,.int .u64 m,.int .u64 v]=(⟨a,k,m,v⟩:Cd).cs:=fun _ _=>rfl
 refine aP 6 (fun a=>[(0,.str s),(2,.ptr 0 0),(8,.str w),(12,.int .u64 m),(14,.int .u64 v),(16,.int .i64 a)]) (fun _=>[some (.cells [.int .i64 0,.int .i64 0,.int .u64 0,.int .u64 0])])
  (fun a=>∀ i k:Nat,i<a->k<6->R≠some ⟨i,k,m,v⟩) ?_ ?_
 ·simp[aq,ai,aw.cl,aX,V.cl]
 intro a ha iz
 rcases aaf ha with L|xa
 ·subst L
  have hn:R=none:=by
   cases h:R with
   | none=>rfl
   | some c =>
    obtain⟨i,k,B,C,q,M⟩:=d c (by rw[<-y,h]);exact absurd (by rw[h,q]) (iz i k B C)
  rw[hn];simp[aq,Cd.cs]
 have ca:((a:Int)<6)=True:=eq_true an
 have a0:aD .i64 (a:Int) 1=((a+1:Nat):Int):=by rw[dW]<;>omega
 simp[ca]
 refine aP 6 (fun k=>[(0,.str s),(2,.ptr 0 0),(8,.str w),(12,.int .u64 m),(14,.int .u64 v),(16,.int .i64 a),(17,.int .i64 k)]) (fun _=>[some (.cells [.int .i64 0,.int .i64 0,.int .u64 0,.int .u64 0])])
  (fun k=>∀ j:Nat,j<k->R≠some ⟨a,j,m,v⟩) ?_ ?_
 ·simp[aq,ai,aw.cl,aX,V.cl]
 intro k u QT
 rcases aaf u with L|D
 ·subst L;simp[a0,xa,aq,ai,aw.cl,aX,V.cl,-aaa];intro i k hi u
  rcases aaf (aam hi) with h|h
  ·rw[h];exact QT k u
  ·exact iz i k h u
 have ck:((k:Int)<6)=True:=eq_true an
 have k0:aD .i64 (k:Int) 1=((k+1:Nat):Int):=by rw[dW]<;>omega
 have N:=zrE D;have b:=cZ a k xa D;have E:=zrF (G:=G) ⟨a,k,m,v⟩ b.1 b.2;obtain⟨T,O⟩:∃ T,T=aK (jS ⟨a,k,m,v⟩):=⟨_,rfl⟩;rw[<-O] at E
 have wj:R≠some ⟨a,k,m,v⟩->∀ j:Nat,j<k+1->R≠some ⟨a,j,m,v⟩:=by
  intro h j hj
  rcases aaf (aam hj) with e|e
  ·rw[e];exact h
  ·exact QT j e
 generalize bX Nj=WW at *;simp only[Cd.cs] at E;simp[ck];refine ax wd ?_
 cases F:(w==gX k) with
 | false =>
  have P:R≠some ⟨a,k,m,v⟩:=by
   intro h;obtain⟨i,j,B,C,q,M⟩:=d _ (by rw[<-y,h]);simp only[Cd.mk.injEq] at q
   have:j=k:=an
   rw[this] at M;simp[M] at F
  simp[N,F,k0,D,aq,ai,aw.cl,aX,V.cl,-aaa]
  exact wj P
 | true =>
  cases H:(T==s) with
  | false =>
   have P:R≠some ⟨a,k,m,v⟩:=by intro h;have:=(Nk (y▸h)).2;rw[<-O] at this;simp[this] at H
   simp[N,F];refine ax E ?_;simp[H,k0,D,aq,ai,aw.cl,aX,V.cl,-aaa]
   exact wj P
  | true =>
   have lH:R=some ⟨a,k,m,v⟩:=by rw[y];exact zt0 b (by rw[<-O];simpa using H)
   rw[lH];simp[N,F];refine ax E ?_;simp[H,aq,Cd.cs]
def zyw[eD G][db G][dP G][jd G][fO G](r:Ru)(d:r.cQ):FP G 501 [.agg r.cs] (.str (aK (o9 r))):=by
 refine bF fO.afl (aab rfl) ?_;obtain⟨o,z,B,p,N⟩:=Bg d;have q:=Yf (G:=G) r.act (Jq p);rw[iS,if_pos p] at q;have D:=zut (G:=G) r.aG z;have E:=zAF (G:=G) r.aG r.nr B;have O:=QW CN (v:=r.aG);have Q:=QW (CO r.aG) (v:=r.nr);have R:=ztY (v:=r.act);have s:=zp9 r;obtain⟨T,e⟩:∃ T:Nat->List UInt8,∀ i,T i=Bh r i:=⟨_,fun _=>rfl⟩
 have F:∀ i,i<=r.conds.length->(T i).length<=80+50*i:=fun i hi=>by rw[e];exact zr0 r i hi
 have H:∀ i c,r.conds[i]?=some c->T (i+1)=T i++(32::vL i++32::Jr c):=fun i c h=>by rw[e,e];exact zqa h
 have g:T r.conds.length=aK (o9 r):=by rw[e];exact zyZ r
 rw[<-g];rw[<-e] at s;generalize cG oi r.aG=M at *;generalize cG (m9 r.aG) r.nr=C at *;generalize gW r.act=A at *
 have I:T 0=111::110::32::(M++32::(C++32::A)):=by rw[s];simp
 have a:∀ n:Nat,n<=400->(n<=9223372036854775807)=True:=fun n h=>eq_true an;simp only[Ru.cs];simp;refine ax D ?_;simp(disch:=(first|omega|(simp;omega))) [a];refine ax E ?_;simp(disch:=(first|omega|(simp;omega))) [a];refine ax q ?_;simp(disch:=(first|omega|(simp;omega))) [a];refine aP r.conds.length (fun i=>[(1,.ptr 0 0),(3,.str (T i)),(4,.int .i64 i)]) (fun _=>[some (.cells r.cs)]) (fun _=>True) ?_ ?_
 ·simp[aq,ai,I,Ru.cs]
 intro i hi _
 by_cases b:i<r.conds.length
 ·obtain⟨x,J⟩:∃ x,x=r.conds[i]:=⟨_,rfl⟩
  have d:r.conds[i]?=some x:=by rw[aae b,J]
  have t:=aag d;have f:=WM d
  have j:(CL r.conds)[i]'(by simpa using b)=x.cs:=by rw[aae (by simpa using b)] at f;exact Option.some.inj f
  have k:=zrF (G:=G) x (o x t).1 (o x t).2;have l:=H i x d;have S:=F i hi;have K:=zrZ x
  have u:aD .i64 (i:Int) 1=((i+1:Nat):Int):=by rw[dW]<;>omega
  have w:((i:Int)<(r.conds.length:Int))=True:=eq_true an;rw[show Jr x=aK (jS x) from rfl] at l K;simp only[Cd.cs] at k f j;generalize aK (jS x)=P at *
  by_cases y:i=0
  ·subst y
   have m:T 0++32::105::102::32::P=T (0+1):=by rw[l];simp[vL]
   simp(disch:=(first|omega|(simp;omega))) [b,w,f,j,Ru.cs,a];refine ax k ?_;simp(disch:=(first|omega|(simp;omega))) [m,a,aq,ai,u,b,Ru.cs,show aD .i64 0 1=1 by decide,-aaa]
  ·have L:((i:Int)==0)=false:=by simp;omega
   have m:T i++32::97::110::100::32::P=T (i+1):=by rw[l];simp[vL,y]
   simp(disch:=(first|omega|(simp;omega))) [b,w,f,j,L,Ru.cs,a];refine ax k ?_;simp(disch:=(first|omega|(simp;omega))) [m,a,aq,ai,u,b,Ru.cs,-aaa]
 ·have:i=r.conds.length:=an
  subst this;simp[Ru.cs]
def zpP:∀(l:List Cd) (k:Nat),(ib k l).length=5*l.length
 | [],k=>rfl
 | c::l,k=>by
  simp only[ib,aai,aaB,zpP l (k+1)];simp[jS];omega
def zn4:∀(j k:Nat) (l:List Cd),(ib k l).drop (5*j)=ib (k+j) (l.drop j)
 | 0,k,l=>rfl
 | j+1,k,[]=>by simp[ib]
 | j+1,k,c::l=>by
  rw[show 5*(j+1)=5*j+5 by omega];simp only[ib,jS,aaG,List.nil_append,aap];rw[zn4 j (k+1) l]
  congr 1;omega
def YC{s:List UInt8}{y:Ru}(h:ui s=some y):y.cQ/\∃ M C A,fP 32 s=[111,110]::M::C::A::ib 0 y.conds/\mZ oi M=some y.aG/\mZ (m9 y.aG) C=some y.nr/\d_ A=some y.act:=by obtain⟨a,b⟩:=QY h;obtain⟨f,c,d,e,g⟩:=Bg a;exact⟨a,_,_,_,b.symm,Js CN c,Js (CO _) d,D_ e⟩
def zyx{s:List UInt8}{y:Ru}(h:ui s=some y){j:Nat}(f:j<y.conds.length){a b c d:List UInt8}{r:List (List UInt8)}(e:(fP 32 s).drop (4+5*j+1)=a::b::c::d::r) :
  dx (aK [a,b,c,d])=some y.conds[j]:=by
 obtain⟨g,M,C,A,i,_⟩:=YC h;rw[i,show 4+5*j+1=(5*j+1)+4 by omega] at e;simp only[aap] at e;rw[<-aaL,zn4,aas f] at e;simp only[ib,aaG,aap,aaM] at e;have k:=(Bg g).1 _ (aaH f)
 have:[a,b,c,d]=jS y.conds[j]:=by have:=congrArg (List.take 4) e;simpa[jS] using this.symm
 rw[this];exact YD k
def zyy[iV G][eD G][db G][f_ G][dP G][jd G][fO G](s:List UInt8)(hs:s.length<=20000):FP G 502 [.str s] (.bc [.agg ((ui s).getD ⟨0,0,[],0⟩).cs,.bool (ui s).isSome]):=by
 refine bF fO.afm (aab rfl) ?_;have Z:=Yj (G:=G) s 32 an;rw[show((aaE 32:Nat):Int)=32 from rfl] at Z;obtain⟨w,t⟩:∃ w,w=fP 32 s:=⟨_,rfl⟩;obtain⟨R,H⟩:∃ R,R=ui s:=⟨_,rfl⟩
 have Al:aK w=s:=by rw[t];exact Qa s
 have hm:∀ x∈w,fA x:=by rw[t];exact P_ s
 have u:∀ x∈w,x.length<=20000:=by
  intro x m
  have:∀(l:List (List UInt8)),x∈l->x.length<=(aK l).length:=by
   intro l
   induction l with
   | nil=>simp
   | cons v l ih =>
    intro h
    rcases aak.1 h with rfl|h
    ·exact Ct (x::l)
    ·have:=ih h;have:=Wx v l;omega
  have:=this w m;rw[Al] at this;omega
 have YE:=YF w;rw[Al] at YE;rw[<-t] at Z;rw[<-H]
 have e:∀ y,R=some y->4<=w.length/\w.length<=24/\(w.length-4)%5=0/\w.length=4+5*y.conds.length:=by intro y p;obtain⟨hg,M,C,A,O,_⟩:=YC (H▸p);have h4:=(Bg hg).2.2.2.2;rw[t,O];simp only[aai,zpP];omega
 simp;refine ax Z ?_;have zero:V.bc [.agg [.int .u32 0,.int .u32 0,.vs [] .no,.int .u32 0],.bool false]=.bc [.agg ((none:Option Ru).getD ⟨0,0,[],0⟩).cs,.bool (none:Option Ru).isSome]:=rfl
 by_cases c1:w.length<4
 ·have k:R=none:=by
   cases h:R with
   | none=>rfl
   | some y=>have:=e y h;omega
  have P:((w.length:Int)<4)=True:=eq_true an;rw[k,<-zero];simp[P,aq]
 have P:((w.length:Int)<4)=False:=eq_false an
 by_cases c2:24<w.length
 ·have k:R=none:=by
   cases h:R with
   | none=>rfl
   | some y=>have:=e y h;omega
  have QZ:(24<(w.length:Int))=True:=eq_true an;rw[k,<-zero];simp[P,QZ,aq]
 have QZ:(24<(w.length:Int))=False:=eq_false an
 have e1:cM .i64 (w.length:Int) 4=((w.length-4:Nat):Int):=by rw[oB an an];omega
 have e2:oE ((w.length-4:Nat):Int) 5=(((w.length-4)%5:Nat):Int):=E7 (b:=5)
 by_cases c3:(w.length-4)%5=0
 rotate_left
 ·have k:R=none:=by
   cases h:R with
   | none=>rfl
   | some y=>have:=e y h;omega
  have Nm:((((w.length-4)%5:Nat):Int) !=0)=true:=by simp;omega
  rw[k,<-zero];simp[P,QZ,e1,e2,Nm,aq,-aaI]
 have Nm:((((w.length-4)%5:Nat):Int) !=0)=false:=by simp;omega
 obtain⟨N,hN⟩:∃ N,w.length=4+5*N:=⟨(w.length-4)/5,an⟩
 have hp:N<=4:=an
 obtain⟨w0,M,C,A,WR,z⟩:∃ w0 M C A WR,w=w0::M::C::A::WR:=by
  match w,c1 with
  | a::b::c::d::r,_=>exact⟨a,b,c,d,r,rfl⟩
  | [],h=>simp at h
  | [_],h=>simp at h
  | [_,_],h=>simp at h
  | [_,_,_],h=>simp at h
 have pM:=zpN (G:=G) M (by have:=u M (by rw[z];simp);omega);obtain⟨a,B⟩:∃ a,a=(mZ oi M).getD 0:=⟨_,rfl⟩;have pC:=ztK (G:=G) a C (by have:=u C (by rw[z];simp);omega);obtain⟨n,k⟩:∃ n,n=(mZ (m9 a) C).getD 0:=⟨_,rfl⟩;have pA:=zk8 (G:=G) A (by have:=u A (by rw[z];simp);omega);obtain⟨v,hv⟩:∃ v,v=(d_ A).getD 0:=⟨_,rfl⟩;rw[<-B] at pM;rw[<-k] at pC;rw[<-hv] at pA;have g1:(bX w)[1]?=some [.str M]:=Ba (by rw[z];rfl)
 have g2:(bX w)[2]?=some [.str C]:=Ba (by rw[z];rfl);have g3:(bX w)[3]?=some [.str A]:=Ba (by rw[z];rfl)
 have g:∀ y,R=some y->mZ oi M=some y.aG/\mZ (m9 y.aG) C=some y.nr/\d_ A=some y.act/\y.cQ/\o9 y=w/\y.conds.length=N:=by intro y p;obtain⟨hg,M',C',A',O,I,E,J⟩:=YC (H▸p);have hl:=(e y p).2.2.2;rw[<-t,z] at O;simp only[List.cons.injEq] at O;obtain⟨_,rfl,rfl,rfl,_⟩:=O;exact⟨I,E,J,hg,by rw[t];exact(QY (H▸p)).2,an⟩
 obtain⟨q,K⟩:∃ q,q=bX w:=⟨_,rfl⟩
 have Q:q.length=w.length:=by rw[K];simp
 rw[<-K] at Z g1 g2 g3 |-;simp[P,QZ,e1,e2,Nm,Q,g1,aq,-aaI];refine ax pM ?_;simp[g2,aq];refine ax pC ?_;simp[g3,aq];refine ax pA ?_;obtain⟨b1,iQ⟩:∃ b1,b1=(mZ oi M).isSome:=⟨_,rfl⟩;obtain⟨b2,g_⟩:∃ b2,b2=(mZ (m9 a) C).isSome:=⟨_,rfl⟩;obtain⟨b3,qZ⟩:∃ b3,b3=(d_ A).isSome:=⟨_,rfl⟩;rw[<-iQ,<-g_,<-qZ]
 by_cases aV:b1=true/\b2=true/\b3=true
 rotate_left
 ·have k:R=none:=by
   cases h:R with
   | none=>rfl
   | some y =>
    obtain⟨I,E,J,_⟩:=g y h;rw[I] at B iQ;simp only[aah] at B;rw[<-B] at E;rw[E] at g_;rw[J] at qZ;exact absurd ⟨iQ,g_,qZ⟩ aV
  rw[k,<-zero]
  cases b1<;>cases b2<;>cases b3<;>first|(exact absurd ⟨rfl,rfl,rfl⟩ aV)|simp[aq]
 obtain⟨rfl,rfl,rfl⟩:=aV;obtain⟨a',mr⟩:=aal.1 iQ.symm;rw[mr] at B;simp only[aah] at B;subst B;obtain⟨n',yE⟩:=aal.1 g_.symm;rw[yE] at k;simp only[aah] at k;subst k;obtain⟨v',Bi⟩:=aal.1 qZ.symm;rw[Bi] at hv;simp only[aah] at hv;subst hv;have U:=(z8 Bi).1;simp[aq]
 refine uW (S:=List Cd) (fun cs=>N-cs.length) (fun cs=>[(0,.str s),(2,.ptr 0 0),(4,.vs q .no),(5,.ptr 1 0),(12,.int .i64 (4+5*cs.length:Nat))])
  (fun cs=>[some (.cells [.int .u32 0,.int .u32 0,.vs [] .full,.int .u32 0]),some (.cells [.int .u32 a,.int .u32 n,.vs (CL cs) (.own 2),.int .u32 v]),some (.zone cs.length)])
  (fun cs=>cs.length<=N/\(∀ c∈cs,c.cZ)/\∀ y,R=some y->y.conds.take cs.length=cs) [] ?_ ?_
 ·refine⟨⟨aaN _,ir,fun y _=>by simp⟩,?_,?_⟩
  ·simp[aq]
  ·simp[ai,aw.cl,aX,V.cl,Tk.cl,CL]
 rintro cs ⟨p1,p2,p3⟩
 by_cases ar:cs.length<N
 ·have hL:((4+5*cs.length:Nat):Int)<(w.length:Int):=an
  obtain⟨o,ho⟩:∃ o,o=4+5*cs.length:=⟨_,rfl⟩
  obtain⟨x1,x2,x3,x4,xr,m⟩:∃ x1 x2 x3 x4 xr,w.drop (o+1)=x1::x2::x3::x4::xr:=by
   have hl:4<=(w.drop (o+1)).length:=by simp;omega
   match w.drop (o+1),hl with
   | a::b::c::d::r,_=>exact⟨a,b,c,d,r,rfl⟩
  have gx:∀ i x,(x1::x2::x3::x4::xr)[i]?=some x->w[o+1+i]?=some x:=fun i x h=>by rw[<-aaq,m];exact h
  have y1:=gx 0 x1 rfl;have y2:=gx 1 x2 rfl;have y3:=gx 2 x3 rfl;have y4:=gx 3 x4 rfl;have k1:=u x1 (aag y1);have k2:=u x2 (aag y2);have k3:=u x3 (aag y3);have k4:=u x4 (aag y4)
  have z1:q[o+1]?=some [.str x1]:=by rw[K];exact Ba y1
  have z2:q[o+2]?=some [.str x2]:=by rw[K];exact Ba y2
  have z3:q[o+3]?=some [.str x3]:=by rw[K];exact Ba y3
  have z4:q[o+4]?=some [.str x4]:=by rw[K];exact Ba y4
  have q1:=(aac.1 z1).2;have q2:=(aac.1 z2).2;have q3:=(aac.1 z3).2;have q4:=(aac.1 z4).2
  have i1:aD .i64 (o:Int) 1=((o+1:Nat):Int):=by rw[dW]<;>omega
  have i2:aD .i64 (o:Int) 2=((o+2:Nat):Int):=by rw[dW]<;>omega
  have i3:aD .i64 (o:Int) 3=((o+3:Nat):Int):=by rw[dW]<;>omega
  have i4:aD .i64 (o:Int) 4=((o+4:Nat):Int):=by rw[dW]<;>omega
  have i5:aD .i64 (o:Int) 5=((o+5:Nat):Int):=by rw[dW]<;>omega
  have wV:aK [x1,x2,x3,x4]=x1++32::(x2++32::(x3++32::x4)):=by simp[aK]
  have F:=zyv (G:=G) (aK [x1,x2,x3,x4]) (by rw[wV];simp;omega);rw[wV] at F
  have EY:∀ y,R=some y->dx (x1++32::(x2++32::(x3++32::x4)))=y.conds[cs.length]?:=by intro y p;have hb:=(g y p).2.2.2.2.2;have:=zyx (H▸p) (j:=cs.length) an (r:=xr) (a:=x1) (b:=x2) (c:=x3) (d:=x4) (by rw[<-t,<-ho];exact m);rw[wV] at this;rw[this,aae an]
  obtain⟨D,hD⟩:∃ D,D=dx (x1++32::(x2++32::(x3++32::x4))):=⟨_,rfl⟩;rw[<-hD] at F EY;rw[<-ho] at hL |-;have W:((o:Int)<(w.length:Int))=True:=eq_true hL;have s1:(x1.length+1<=9223372036854775807)=True:=eq_true an;have b9:∀ n:Nat,n<=100000->(n<=9223372036854775807)=True:=fun n h=>eq_true an
  have l1:((o+1:Nat):Int)<(w.length:Int):=an
  have jl:((cs.length+1)*32<=140737488355328)=True:=eq_true an;have D8:(∀ f∈CL cs,f.length=4)=True:=eq_true (by intro f hf;simp only[CL,aau] at hf;obtain⟨y,_,rfl⟩:=hf;rfl)
  cases X:D with
  | none =>
   have k:R=none:=by
    cases h:R with
    | none=>rfl
    | some y =>
     have:=EY y h;have hb:=(g y h).2.2.2.2.2;rw[X,aae an] at this;cases this
   rw[X] at F;rw[k,<-zero];simp(disch:=(first|omega|(simp;omega))) [W,Q,z1,z2,z3,z4,q1,q2,q3,q4,i1,i2,i3,i4,i5,b9,aq,-aaa];refine ax F ?_
   simp[Cd.cs]
  | some c =>
   have dT:CL cs++[c.cs]=CL (cs++[c]):=by simp[CL]
   rw[X] at F;simp only[aah,Cd.cs,aaC] at F dT;simp(disch:=(first|omega|(simp;omega))) [W,Q,z1,z2,z3,z4,q1,q2,q3,q4,i1,i2,i3,i4,i5,b9,aq,-aaa];refine ax F ?_;simp(disch:=(first|omega|(simp;omega))) [jl,D8,dT,i5,aq,-aaa];refine⟨cs++[c],?_,⟨by simp;omega,?_,?_⟩,?_,?_⟩
   ·simp;omega
   ·intro x m
    rcases aaK.1 m with m|m
    ·exact p2 x m
    ·rw[aaD.1 m];exact(Nk (hD▸X)).1
   ·intro y p;have h1:=EY y p;rw[X] at h1;rw[aaB,List.length_singleton,aar,p3 y p,<-h1];rfl
   ·have e5:o+5=4+5*(cs.length+1):=an
    simp[aq,e5,-aaa,-aax]
   ·simp[ai,aw.cl,aX,V.cl,Tk.cl]
 ·have hh:cs.length=N:=an
  have W:(((4+5*cs.length:Nat):Int)<(w.length:Int))=False:=eq_false an
  have hj:cs.length<=4:=an
  have m:(⟨a,n,cs,v⟩:Ru).cQ:=by refine⟨?_,fun c L=>(p2 c L).2,(Q0 mr).1,(Q0 yE).1,Jq U⟩;simp only[ix,aaj,decide_eq_true_eq,aaJ];exact⟨⟨fun c L=>(p2 c L).1,U⟩,hj⟩
  have pL:=zyw (G:=G) ⟨a,n,cs,v⟩ m;obtain⟨T,hT⟩:∃ T,T=aK (o9 ⟨a,n,cs,v⟩):=⟨_,rfl⟩;rw[<-hT] at pL;simp only[Ru.cs] at pL
  cases Y:(T==s) with
  | true =>
   have hr:R=some ⟨a,n,cs,v⟩:=by
    rw[H];refine zt4 m ?_
    have:aK (o9 ⟨a,n,cs,v⟩)=s:=by rw[<-hT];simpa using Y
    rw[<-this,zA6 (zA7 _) (zwK m)]
   rw[hr];simp[W,Q,aq,-aaa];refine ax pL ?_
   simp[Y,Ru.cs]
  | false =>
   have k:R=none:=by
    cases h:R with
    | none=>rfl
    | some y =>
     obtain⟨I,E,J,hg,hk,hl⟩:=g y h;have L:=p3 y h;rw[hh,<-hl,aat] at L;rw[mr] at I;cases I;rw[yE] at E;cases E;rw[Bi] at J;cases J
     have:aK (o9 y)=s:=by rw[hk,Al]
     rw[<-L] at hT;rw[hT,this] at Y;simp at Y
   rw[k,<-zero];simp[W,Q,aq,-aaa];refine ax pL ?_;simp[Y,Ru.cs]
def x_:List (List UInt8)->Nat
 | []=>0
 | w::r=>w.length+1+x_ r
def YG(m:UInt8):∀ s,x_ (fP m s)=s.length+1
 | []=>rfl
 | b::s=>by
  have a:=YG m s;unfold fP;split
  ·simp only[x_,a,List.length_nil,aai];omega
  ·cases h:fP m s with
   | nil=>exact absurd h (A5 m s)
   | cons w r =>
    rw[h] at a;simp only[x_,aai] at a |-;omega
def zpQ[iV G][eD G][db G][f_ G][dP G][jd G][fO G](S:List UInt8)(ha:S.length<=20000):FP G 503 [.str S] (nA (fk S)):=by
 refine bF fO.afn (aab rfl) ?_;have Wu:(20000<(S.length:Int))=False:=eq_false an;obtain⟨R,z6⟩:∃ r,r=fk S:=⟨_,rfl⟩;rw[<-z6];have I:=Yj (G:=G) S 10 an;rw[show((aaE 10:Nat):Int)=10 from rfl] at I;obtain⟨L,hL⟩:∃ L,L=fP 10 S:=⟨_,rfl⟩;have Et:=YG 10 S;have ay:=A5 10 S;rw[<-hL] at I Et ay;obtain⟨u,T⟩:∃ u,u=bX L:=⟨_,rfl⟩
 have j:u.length=L.length:=by rw[T];simp
 rw[<-T] at I;have h0:0<L.length:=aao.2 ay
 have xN:∀ l:List (List UInt8),l.length<=x_ l:=fun l=>by
  induction l with
  | nil=>simp
  | cons w l ih=>simp only[x_,aai];omega
 have hb:=xN L;simp[Wu];refine ax I ?_;simp[j]
 refine uW (S:=Nat×Nat×List Ru×Option Nat) (fun q=>L.length-q.1) (fun q=>[(0,.str S),(2,.ptr 0 0),(5,.ptr 1 0),(6,.vs u .no),(7,.int .i64 (q.2.1:Nat)),(8,.bool q.2.2.2.isSome),(9,.int .i64 (q.1:Nat))])
  (fun q=>[some (.cells [.vs [] .full,.int .u32 0]),some (.cells [.vs (RL q.2.2.1) (.own 2),.int .u32 (q.2.2.2.getD 0:Nat)]),some (.zone q.2.2.1.length)])
  (fun q=>q.1<L.length/\q.2.2.1.length<=64/\q.2.1+x_ (L.drop q.1)=S.length+1/\sV q.2.1 q.2.2.1 q.2.2.2 (L.drop q.1)=R) (0,0,[],none) ?_ ?_
 ·refine⟨⟨h0,ir,by simpa using Et,by rw[z6,hL];rfl⟩,?_,?_⟩
  ·simp[aq]
  ·simp[ai,aw.cl,aX,V.cl,Tk.cl,RL]
 rintro⟨i,o,rs,dn⟩ ⟨p1,p2,p3,p4⟩;simp only at p1 p2 p3 p4 |-;obtain⟨w,hw⟩:∃ w,w=L[i]:=⟨_,rfl⟩
 have W:L[i]?=some w:=by rw[aae p1,hw]
 have e:u[i]?=some [.str w]:=by rw[T];exact Ba W
 rw[aas p1,<-hw] at p3 p4;simp only[x_] at p3;have n:((i:Int)<(L.length:Int))=True:=eq_true an
 have p:cM .i64 (L.length:Int) 1=((L.length-1:Nat):Int):=by rw[oB an an];omega
 have i3:aD .i64 (i:Int) 1=((i+1:Nat):Int):=by rw[dW]<;>omega
 have wl:w.length<=20000:=an
 have c:∀ k:Nat,R=(kG,o,k)->nA R=.bc [.agg [.vs [] .no,.int .u32 0],.int .i64 o,.int .i64 k]:=fun k h=>by rw[h];rfl
 by_cases y7:i+1=L.length
 ·have X:L.drop (i+1)=[]:=aan an;rw[X] at p3 p4;simp only[x_,sV,if_true] at p3 p4
  have m:((i:Int)==((L.length-1:Nat):Int))=true:=by simp;omega
  by_cases A:w=[]
  ·rw[if_pos A] at p4
   have J:(w==[])=true:=by simpa using A
   have ho:o=S.length:=by rw[A] at p3;simp at p3;omega
   cases dn with
   | none =>
    simp only at p4;rw[c 5 p4.symm,ho]
    simp[j,n,p,m,e,J,aq]
   | some v =>
    simp only at p4;rw[<-p4];simp[j,n,p,m,e,J,aq,nA,Po.cs]
  ·rw[if_neg A] at p4
   have J:(w==[])=false:=by simpa using A
   rw[c 2 p4.symm];simp[j,n,p,m,e,J,aq]
 have X:L.drop (i+1)≠[]:=by intro h;have:=congrArg List.length h;simp at this;omega
 have m:((i:Int)==((L.length-1:Nat):Int))=false:=by simp;omega
 simp only[sV,if_neg X] at p4
 cases DK:dn with
 | some v =>
  rw[DK] at p4;simp only at p4;rw[c 2 p4.symm]
  simp[j,n,p,m,e,aq]
 | none =>
  subst DK;simp only at p4;have g:=zyy (G:=G) w wl
  have a1:aD .i64 (o:Int) (w.length:Int)=((o+w.length:Nat):Int):=by rw[dW]<;>omega
  have a2:aD .i64 ((o+w.length:Nat):Int) 1=((o+w.length+1:Nat):Int):=by rw[dW]<;>omega
  have lh:o+w.length+1+x_ (L.drop (i+1))=S.length+1:=an
  cases hl:ui w with
  | some x =>
   rw[hl] at g p4;simp only[aah,aaC] at g p4
   by_cases yz:64<=rs.length
   ·rw[if_pos yz] at p4;have Y:(64<=(rs.length:Int))=True:=eq_true an;rw[c 3 p4.symm];simp only[Ru.cs] at g;simp[j,n,p,m,e,aq];refine ax g ?_;simp[Y,RL]
   ·rw[if_neg yz] at p4;have Y:(64<=(rs.length:Int))=False:=eq_false an;have jl:((rs.length+1)*40<=140737488355328)=True:=eq_true an;have D8:(∀ f∈RL rs,f.length=4)=True:=eq_true (by intro f s;simp only[RL,aau] at s;obtain⟨y,_,rfl⟩:=s;rfl)
    have dT:RL rs++[x.cs]=RL (rs++[x]):=by simp[RL]
    have yl:(RL rs).length=rs.length:=by simp[RL]
    simp only[Ru.cs] at g dT;simp[j,n,p,m,e,aq];refine ax g ?_;simp[Y,jl,D8,dT,yl,e,a1,a2,i3,aq,-aaa];refine⟨(i+1,o+w.length+1,rs++[x],none),?_,⟨by simp only;omega,by simp;omega,lh,p4⟩,?_,?_⟩
    ·simp only;omega
    ·simp[aq]
    ·simp[ai,aw.cl,aX,V.cl,Tk.cl]
  | none =>
   rw[hl] at g p4;simp only[Option.getD_none,Option.isSome_none] at g p4;have K:=Yj (G:=G) w 32 an;rw[show((aaE 32:Nat):Int)=32 from rfl] at K;obtain⟨U,Z⟩:∃ U,U=fP 32 w:=⟨_,rfl⟩;have B:=A5 32 w;have Jd:=YG 32 w;rw[<-Z] at K B Jd;have hc:=xN U;have Qw:0<U.length:=aao.2 B;obtain⟨C,M⟩:∃ C,C=bX U:=⟨_,rfl⟩
   have D:C.length=U.length:=by rw[M];simp
   rw[<-M] at K;obtain⟨z,N⟩:∃ z,z=U[U.length-1]:=⟨_,rfl⟩
   have gz:C[U.length-1]?=some [.str z]:=by rw[M];exact Ba (by rw[aae an,N])
   obtain⟨f,s⟩:∃ f,f=U[0]:=⟨_,rfl⟩
   have O:C[0]?=some [.str f]:=by rw[M];exact Ba (by rw[aae Qw,s])
   have zl:z.length<=20001:=by
    have:∀ l:List (List UInt8),∀ x∈l,x.length<=x_ l:=fun l=>by
     induction l with
     | nil=>simp
     | cons v l ih =>
      intro x hx
      rcases aak.1 hx with rfl|hx
      ·simp only[x_];omega
      ·have:=ih x hx;simp only[x_];omega
    have:=this U z (by rw[N];exact aaH _);omega
   have pA:=zk8 (G:=G) z an
   have u1:cM .i64 (U.length:Int) 1=((U.length-1:Nat):Int):=by rw[oB an an];omega
   obtain⟨d,hd⟩:∃ d,d=nC w:=⟨_,rfl⟩;rw[<-hd] at p4
   have Am:∀ v,d=some v->U.length=2/\f=[100,101,102,97,117,108,116]/\d_ z=some v:=by
    intro v hv;obtain⟨h1,t⟩:=Qc (hd▸hv);rw[<-Z] at t
    have gZ:U.length=2:=by rw[<-t];rfl
    refine⟨gZ,?_,?_⟩
    ·rw[s];simp only[<-t];rfl
    ·have:z=gW v:=by rw[N];simp only[<-t];rfl
     rw[this];exact D_ h1
   have Nr:∀ v,U.length=2->f=[100,101,102,97,117,108,116]->d_ z=some v->d=some v:=by
    intro v h1 t h3;rw[hd];refine zvI (z8 h3).1 ?_;rw[<-Z,GK,(z8 h3).2]
    obtain⟨a,b,M7⟩:∃ a b,U=[a,b]:=by
     match U,h1 with
     | [a,b],_=>exact⟨a,b,rfl⟩
    have fa:f=a:=by rw[s];simp[M7]
    have zb:z=b:=by rw[N];simp[M7]
    rw[M7,<-fa,<-zb,t]
   simp only[Ru.cs] at g;simp[j,n,p,m,e,aq];refine ax g ?_;simp[e,aq];refine ax K ?_;simp[D,u1,gz,aq];refine ax pA ?_
   by_cases E:U.length=2
   ·have F:((U.length:Int) !=2)=false:=by simp;omega
    by_cases P:f=[100,101,102,97,117,108,116]
    ·have Q:(f==[100,101,102,97,117,108,116])=true:=by simpa using P
     cases hA:d_ z with
     | some v =>
      rw[Nr v E P hA] at p4;simp only at p4;simp[D,F,Q,O,e,a1,a2,i3,aq,-aaa];refine⟨(i+1,o+w.length+1,rs,some v),?_,⟨by simp only;omega,p2,lh,p4⟩,?_,?_⟩
      ·simp only;omega
      ·simp[aq]
      ·simp[ai,aw.cl,aX,V.cl,Tk.cl]
     | none =>
      have H:d=none:=by
       cases h:d with
       | none=>rfl
       | some v=>have:=(Am v h).2.2;rw[hA] at this;cases this
      rw[H] at p4;rw[c 2 p4.symm];simp[D,F,Q,O,aq]
    ·have Q:(f==[100,101,102,97,117,108,116])=false:=by simpa using P
     have H:d=none:=by
      cases h:d with
      | none=>rfl
      | some v=>exact absurd (Am v h).2.1 P
     rw[H] at p4;rw[c 2 p4.symm];simp[D,F,Q,O,aq]
   ·have F:((U.length:Int) !=2)=true:=by simp;omega
    have H:d=none:=by
     cases h:d with
     | none=>rfl
     | some v=>exact absurd (Am v h).1 E
    rw[H] at p4;rw[c 2 p4.symm];simp[D,F,O,aq]
def nM(p:Po):Nat:=p.rules.length+(p.rules.map fun r=>r.conds.length).sum
def YI:∀(l:List (List UInt8)) (o:Nat) (rs:List Ru) (a:Option Nat),(∀ r∈rs,r.cQ)->rs.length<=64->(∀ v,a=some v->dE v=true) ->
  ((sV o rs a l).1.rules.length<=64/\(∀ r∈(sV o rs a l).1.rules,r.cQ))/\((sV o rs a l).2.2=0->l≠[]->dE (sV o rs a l).1.ew=true)
 | [],o,rs,a,h,c,e=>by simp[sV,kG]
 | w::r,o,rs,a,h,c,e=>by
  have z:(kG.rules.length<=64/\∀ r∈kG.rules,r.cQ):=by simp[kG]
  unfold sV;split
  ·split
   ·split
    ·exact⟨z,ir⟩
    ·rename_i v;exact⟨⟨c,h⟩,fun _ _=>e v rfl⟩
   ·exact⟨z,ir⟩
  ·rename_i f;split
   ·exact⟨z,ir⟩
   ·split
    ·rename_i x g;split
     ·exact⟨z,ir⟩
     ·have:=YI r (o+w.length+1) (rs++[x]) none (fun y b=>by
       rcases aaK.1 b with b|b
       ·exact h y b
       ·rw[aaD.1 b];exact(QY g).1) (by simp;omega) ir
      exact⟨this.1,fun d _=>this.2 d f⟩
    ·split
     ·rename_i v i;have:=YI r (o+w.length+1) rs (some v) h c (fun y b=>by cases b;exact(Qc i).1);exact⟨this.1,fun d _=>this.2 d f⟩
     ·exact⟨z,ir⟩
def zrG(S:List UInt8):((fk S).1.rules.length<=64/\∀ r∈(fk S).1.rules,r.cQ)/\((fk S).2.2=0->dE (fk S).1.ew=true):=by have:=YI (fP 10 S) 0 [] none ir ir ir;exact⟨this.1,fun h=>this.2 h (A5 10 S)⟩
def Ns:∀ l:List Nat,(∀ x∈l,x<=4)->l.sum<=4*l.length
 | [],_=>by simp
 | a::l,h=>by
  have:=Ns l (fun x b=>h x (by simp[b]));have:=h a ir;simp only[List.sum_cons,aai];omega
def zwx[iV G][eD G][db G][f_ G][dP G][jd G][fO G][pD G](S:List UInt8)(b:S.length<=20000):FP G 504 [.str S] (.int .i64 (nM (fk S).1:Nat)):=by
 refine bF pD.afo (aab rfl) ?_;have g:=zpQ (G:=G) S b;obtain⟨⟨B,j⟩,_⟩:=zrG S;generalize n:(fk S).1=p at *
 have o:nA (fk S)=.bc [.agg [.vs (RL p.rules) .no,.int .u32 (p.ew:Int)],.int .i64 ((fk S).2.1:Nat),.int .i64 ((fk S).2.2:Nat)]:=by rw[nA,n];rfl
 rw[o] at g;obtain⟨N,c⟩:∃ N:Nat->Nat,∀ i,N i=p.rules.length+((p.rules.take i).map fun r=>r.conds.length).sum:=⟨_,fun _=>rfl⟩
 have q:N 0=p.rules.length:=by rw[c];simp
 have d:∀ i r,p.rules[i]?=some r->N (i+1)=N i+r.conds.length:=fun i r h=>by rw[c,c,aar,h];simp;omega
 have s:∀ i,N i<=64+4*64:=fun i=>by
  rw[c]
  have:=Ns ((p.rules.take i).map fun r=>r.conds.length) (fun x a=>by
   simp only[aau] at a;obtain⟨r,t,rfl⟩:=a
   exact(Bg (j r (aaA t))).2.2.2.2)
  rw[List.length_map,aaF] at this;omega
 have e:nM p=N p.rules.length:=by rw[c,aat];rfl
 rw[e];simp;refine ax g ?_;simp[aq];refine aP p.rules.length (fun i=>[(3,.ptr 0 0),(6,.int .i64 (N i:Nat)),(7,.int .i64 i)]) (fun _=>[some (.cells [.vs (RL p.rules) .no,.int .u32 (p.ew:Int)])]) (fun _=>True) ?_ ?_
 ·simp[aq,ai,aw.cl,aX,V.cl,Tk.cl,q]
 intro i hi _
 have k:(RL p.rules).length=p.rules.length:=by simp[RL]
 rcases aaf hi with u|l
 ·subst u;simp[k,aq]
 ·obtain⟨x,a⟩:∃ x,p.rules[i]?=some x:=⟨_,aae l⟩
  have f:(RL p.rules)[i]?=some x.cs:=by simp[RL,a]
  have v:((i:Int)<(p.rules.length:Int))=True:=eq_true an
  have w:aD .i64 (i:Int) 1=((i+1:Nat):Int):=by rw[dW]<;>omega
  have y:=d i x a;have C:=s i;have D:=(Bg (j x (aag a))).2.2.2.2
  have z:aD .i64 (N i:Int) (x.conds.length:Int)=((N (i+1):Nat):Int):=by rw[y,dW]<;>omega
  have A:(CL x.conds).length=x.conds.length:=by simp[CL]
  have m:=(aac.1 f).2;simp only[Ru.cs] at f m;simp[k,v,f,m,A,w,z,l,aq,ai,aw.cl,aX,V.cl,Tk.cl,-aaa]
noncomputable def Ew(S:List UInt8)(T:Nat)(x y z:Int):Bool:=decide (2000<S.length\/8<nM (fk S).1\/3000<T\/4<x\/25<y\/3<z)
def zwy[iV G][eD G][db G][f_ G][dP G][jd G][fO G][pD G][rM G](S:List UInt8)(tab:List (List V))(x y z:Int) :
  FP G 505 [.str S,.vs tab .no,.agg [.int .i64 x,.int .i64 y,.int .i64 z]] (.bool (Ew S tab.length x y z)):=by
 refine bF rM.afp (aab rfl) ?_
 by_cases f:2000<S.length
 ·have b:(2000<(S.length:Int))=True:=eq_true an
  have:Ew S tab.length x y z=true:=by simp[Ew,f]
  rw[this];simp[b]
 ·have b:(2000<(S.length:Int))=False:=eq_false an;have h:=zwx (G:=G) S an
  have e:Ew S tab.length x y z=(decide (8<nM (fk S).1)||decide (3000<tab.length)||decide (4<x)||decide (25<y)||decide (3<z)):=by rw[Bool.eq_iff_iff];simp[Ew,f,or_assoc]
  rw[e];generalize nM (fk S).1=n at *;simp[b];refine ax h ?_
  by_cases c:8<n
  ·have a:(8<(n:Int))=True:=eq_true an;simp[a,c]
  have a:(8<(n:Int))=False:=eq_false an
  by_cases g:3000<tab.length
  ·have d:(3000<(tab.length:Int))=True:=eq_true an;simp[a,c,g,d]
  have d:(3000<(tab.length:Int))=False:=eq_false an
  by_cases i:4<x<;>by_cases j:25<y<;>simp[a,c,g,d,i,j]
def zm4:∀{f:List af},jo f=true->∀ x∈f,jw x=true
 | [],_,x,h=>by simp at h
 | y::f,a,x,h=>by
  simp only[jo,aaj] at a
  rcases aak.1 h with rfl|h
  ·have:=a.1;simp only[ez,aaj] at this;exact this.1.1.1
  ·exact zm4 a.2 x h
def zAH{S:List UInt8}{n:Nat}{x y z:Int}(h:Ew S n x y z=false):S.length<=2000/\n<=3000/\nM (fk S).1<=8:=by simp only[Ew,decide_eq_false_iff_not] at h;omega
noncomputable def kI(S:List UInt8):Po:=(fk S).1
def mP(b:List Nat):List TR:=(sn b).getD []
noncomputable def uw(S:List UInt8)(b:List Nat)(x y z:Int):(List af×List TR)×Nat×Bool:=sv (oS (kI S)) (mP b) x y z
def Nu(q:(List af×List TR)×Nat×Bool):V:=.agg [FL q.1.1,.vs (aj .u8 (kQ q.1.1)) .no,.vs (aj .u8 (Af q.1.2)) .no,.int .i64 (q.2.1:Nat),.bool q.2.2]
def Nv:V:=.agg [.vs [] .no,.vs [] .no,.vs [] .no,.int .i64 0,.bool false]
noncomputable def Hj(S:List UInt8)(b:List Nat)(x y z:Int):V :=
 if(fk S).2.2=0 then .bc [Nu (uw S b x y z),.int .i64 0,.int .i64 0] else .bc [Nv,.int .i64 ((fk S).2.1:Nat),.int .i64 ((fk S).2.2:Nat)]
def YJ{S:List UInt8}(h:(fk S).2.2=0):xX (kI S)=true/\(kI S).wf:=by
 obtain⟨⟨d,e⟩,a⟩:=zrG S;have a:=a h;refine⟨?_,?_,fun r b=>?_,Jq a⟩
 ·simp only[xX,aaj,decide_eq_true_eq,aaJ];exact⟨⟨fun r b=>(e r b).1,a⟩,d⟩
 ·exact aaw d (by decide)
 ·obtain⟨f,g,i,j,k⟩:=Bg (e r b);exact⟨aaw k (by decide),fun c l=>(f c l).2,g,i,Jq j⟩
def YK{b:List Nat}(c:∀ x∈b,x<256):(∀ r∈mP b,r.ok)/\(mP b).length<=64/\dD (mP b)=true:=by
 unfold mP
 cases h:sn b with
 | none=>exact⟨ir,ir,rfl⟩
 | some t =>
  obtain⟨a,d⟩:=zCJ c h;exact⟨d,(ME a).2,a⟩
def YL{t:List TR}(h:dD t=true):kR t=t:=by rw[kR,if_pos h]
structure Ey (f:List af) (q:(List af×List TR)×Nat×Bool):Prop where
 sound:dJ q.1.1=true
 k:∀ y∈q.1.1,y.k<4294967296
 len:q.1.1.length<=f.length
 tk:qk q.1.2
 dN:dD q.1.2=true
def zrH{tries most:Int}:∀(n:Nat) {f:List af} {t:List TR},dJ f=true->(∀ y∈f,y.k<4294967296)->qk t->dD t=true->Ey f (xZ tries most n f t)
 | 0,f,t,b,c,d,e=>⟨b,c,aaz _,d,e⟩
 | n+1,f,t,b,c,d,e=>by
  unfold xZ
  cases g:CK f t tries most with
  | none=>exact⟨b,c,aaz _,d,e⟩
  | some q =>
   have k:=zty b c d g;have a:=zrH (tries:=tries) (most:=most) n k.sound k.k k.tk (k.dN e);exact⟨a.sound,a.k,aaw a.len (Nat.le_of_lt k.len),a.tk,a.dN⟩
def YM{p:Po}(c:p.wf)(d:xX p=true):(oS p).length<=4096/\dJ (oS p)=true/\(∀ y∈oS p,y.k<4294967296):=by obtain⟨e,f,h⟩:=zpE c d;obtain⟨i,a⟩:=zuy e;have b:=zp4 f h;have g:=i.len;have j:(bS [] 6 p.ew).length=1:=rfl;exact⟨an,(a b).1,(a b).2⟩
def zyz{S:List UInt8}{b:List Nat}(x y z:Int)(g:∀ w∈b,w<256)(h:(fk S).2.2=0):Ey (prune (oS (kI S))) (uw S b x y z)/\(uw S b x y z).1.1.length<=(oS (kI S)).length:=by
 obtain⟨a,i⟩:=YJ h;obtain⟨m,j,k⟩:=YM i a;obtain⟨c,n,e⟩:=YK g;have f:=ztA j;have d:=zrH (tries:=qB y 0 1000) (most:=qB z 0 32) (qB x 0 1000).toNat (t:=mP b) f.1 (zvw k) (fun r a=>⟨(c r a).2.2.1,(c r a).2.2.2.1,(c r a).2.2.2.2⟩) e
 have l:uw S b x y z=xZ (qB y 0 1000) (qB z 0 32) (qB x 0 1000).toNat (prune (oS (kI S))) (mP b):=by rw[uw,sv,YL e]
 rw[<-l] at d;exact⟨d,aaw d.len f.2.1⟩
noncomputable def Nw(p:Po)(a:Int)(Q:(List af×List TR)×Nat×Bool):Nat->Jb
 | 0=>ur
 | 1=>{ ur with p:=p,at_:=a,e:=0,k1:=.no }
 | 2=>{ ur with p:=p,at_:=a,e:=0,k1:=.no,f:=IL (oS p),k2:=.no }
 | 3=>{ ur with p:=p,at_:=a,e:=0,k1:=.no,f:=IL (oS p),k2:=.no,F:=IL Q.1.1,T:=TL Q.1.2,n:=(Q.2.1:Nat),d:=Q.2.2,k3:=.no,k4:=.no }
 | 4=>{ ur with p:=p,at_:=a,e:=0,k1:=.no,f:=IL (oS p),k2:=.no,F:=IL Q.1.1,T:=TL Q.1.2,n:=(Q.2.1:Nat),d:=Q.2.2,k3:=.no,k4:=.no,oc:=aj .u8 (kQ Q.1.1),k6:=.no }
 | _=>{ ur with p:=p,at_:=a,e:=0,k1:=.no,f:=IL (oS p),k2:=.no,F:=IL Q.1.1,T:=TL Q.1.2,n:=(Q.2.1:Nat),d:=Q.2.2,k3:=.no,k4:=.no,oc:=aj .u8 (kQ Q.1.1),k6:=.no,ot:=aj .u8 (Af Q.1.2),k7:=.no }
def zwz[dK G][dp G][aB G][aA G][bJ G][df G][cW G][aL G][cO G][cP G][bT G][b_ G][bI G][au G][H:dM G][cu G][aI G][cT G][bV G][cJ G][eC G][fM G][fg G][fh G][iU G][cS G][fe G][eg G][dU G][cI G][fZ G][eO G]
  [fi G][bM G][ka G][bD G][ei G][dO G][cU G][eh G][eP G][cK G][cN G][fN G][dH G][bq G][jE G]
  (S:List UInt8) (b:List Nat) (x y z:Int) (v:S.length<=20000) (h:∀ w∈b,w<256) (A:b.length<=1000000):FP G 483 [.str S,.vs (aj .u8 b) .no,.agg (jR x y z)] (Hj S b x y z):=by
 have l:=zts (G:=G) S v;obtain⟨te,hd,_⟩:=zpJ (G:=G) b h A;simp only[TF] at hd;unfold Hj
 by_cases d:(fk S).2.2=0
 rotate_left
 ·rw[if_neg d];exact zur (by simp;omega) hd l
 rw[if_pos d];obtain⟨a,q⟩:=YJ d;obtain⟨I,B,C⟩:=YM q a;obtain⟨g,K,D⟩:=YK h;have m:=ztu (G:=G) (kI S) q;rw[a] at m;have E:QI (mP b):=⟨an,g⟩;have n:=zn3 (G:=G) (oS (kI S)) (mP b) x y z B C E (by rw[YL D];exact fun r a=>⟨(g r a).2.2.1,(g r a).2.2.2.1,(g r a).2.2.2.2⟩);obtain⟨c,o⟩:=zyz x y z h d;obtain⟨Q,s⟩:∃ Q,Q=uw S b x y z:=⟨_,rfl⟩;rw[<-s] at c o |-;rw[show sv (oS (kI S)) (mP b) x y z=Q from s.symm] at n
 have t:=YN (G:=G) Q.1.1 an c.k (fun w F=>by
  have:=c.sound;simp only[dJ,aaj] at this
  exact zm4 this.1.2 w F)
 have u:=zpK (G:=G) Q.1.2 c.dN (Yc c.dN c.tk).2;rw[nA,d] at l;simp only[FL,TF,mK,if_true] at m n t u
 have p:=zus (G:=G) (S:=S) (tab:=aj .u8 b) (x:=x) (y:=y) (z:=z) (tb:=TL (mP b)) (te:=te) (J:=Nw (kI S) ((fk S).2.1:Nat) Q) rfl hd (ztD (j:=ur) l) (zAB (f:=IL (oS (kI S))) (e:=0) m) (zAC n) (zAD t) (zAE u) (by
  intro i hi
  have:i=0\/i=1\/i=2\/i=3\/i=4\/i=5:=an
  rcases this with rfl|rfl|rfl|rfl|rfl|rfl<;>simp[Nw,Jb.cs,ur,aX,V.cl,Tk.cl]) (by
  intro i L M
  have:i=1\/i=2\/i=3\/i=4\/i=5:=an
  rcases this with rfl|rfl|rfl|rfl|rfl<;>rfl)
 exact p
def zpR[dK G][dp G][aB G][aA G][bJ G][df G][cW G][aL G][cO G][cP G][bT G][b_ G][bI G][au G][J:dM G][cu G][aI G][cT G][bV G][cJ G][eC G][fM G][fg G][fh G][iU G][cS G][fe G][eg G][dU G][cI G][fZ G][eO G]
  [fi G][bM G][ka G][bD G][ei G][dO G][cU G][eh G][eP G][cK G][cN G][fN G][dH G][bq G][jE G]
  [iV G][eD G][db G][f_ G][dP G][jd G][fO G][pD G][rM G][vR G][rN G]
  (f:FP G 506 [] (.bool true)) (S:List UInt8) (b:List Nat) (x y z:Int) (d:∀ w∈b,w<256):FP G 507 [.str S,.vs (aj .u8 b) .no,.agg (jR x y z)] (.bool true):=by
 refine bF rN.afq (aab rfl) ?_;have s:=zwy (G:=G) S (aj .u8 b) x y z;rw[zn0] at s;simp[jR];refine ax s ?_
 cases C:Ew S b.length x y z with
 | true =>
  simp;refine ax f ?_
  simp
 | false =>
 obtain⟨K,L,_⟩:=zAH C;have a:=zwz (G:=G) S b x y z an d an;have g:=zpQ (G:=G) S an;obtain⟨M,h,_⟩:=zpJ (G:=G) b d an;rw[show(sn b).getD []=mP b from rfl] at h;unfold Hj at a;obtain⟨o,t⟩:∃ o,o=(fk S).2.1:=⟨_,rfl⟩;obtain⟨k,i⟩:∃ k,k=(fk S).2.2:=⟨_,rfl⟩
 have j:nA (fk S)=.bc [.agg [.vs (RL (kI S).rules) .no,.int .u32 ((kI S).ew:Int)],.int .i64 o,.int .i64 k]:=by rw[t,i];rfl
 rw[j] at g;rw[<-t,<-i] at a
 by_cases l:k=0
 rotate_left
 ·rw[if_neg l,Nv,jR] at a
  have m:((k:Int) !=0)=true:=by simp;omega
  simp;refine ax a ?_;simp[aq];refine ax g ?_;simp[m,aq];refine ax f ?_;simp
 ·rw[if_pos l] at a
  have u:(fk S).2.2=0:=by rw[<-i];exact l
  have m:((k:Int) !=0)=false:=by simp;omega
  obtain⟨c,v⟩:=YJ u;obtain⟨N,D,E⟩:=YM v c;obtain⟨e,O,F⟩:=YK d;have n:=ztu (G:=G) (kI S) v;rw[c] at n;have p:=zn3 (G:=G) (oS (kI S)) (mP b) x y z D E ⟨an,e⟩ (by rw[YL F];exact fun r c=>⟨(e r c).2.2.1,(e r c).2.2.2.1,(e r c).2.2.2.2⟩);obtain⟨q,H⟩:=zyz x y z d u;rw[show sv (oS (kI S)) (mP b) x y z=uw S b x y z from rfl] at p;generalize uw S b x y z=Q at *;have A:=zpK (G:=G) Q.1.2 q.dN (Yc q.dN q.tk).2
  have B:=zwM (G:=G) Q.1.1 Q.1.1 an;have I:=Jf (Af Q.1.2) (XS (b:=QB Q.1.2) (zAu _));simp only[FL,TF,mK,Nu,jR,Po.cs,if_true] at n p A B a h;simp;refine ax a ?_;simp[aq];refine ax g ?_;simp[m,aq];refine ax n ?_;simp[aq];refine ax h ?_;simp[aq];refine ax p ?_;simp[aq];refine ax A ?_;simp[aq];refine ax B ?_;simp[I];refine ax f ?_;simp
end Go.Ev
