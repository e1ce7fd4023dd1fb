/- Tables: places, and what is found. The code. -/
import Derived.Test.YtbkhoemaobbplaaGreatDoorDecAW
import Derived.Test.YtbkhoemaobbplaaGreatDoorLowLW
import Derived.Test.YtbkhoemaobbplaaGreatDoorEvWinCW
import Derived.Test.YtbkhoemaobbplaaGreatDoorEvXW
import Derived.Test.YtbkhoemaobbplaaGreatDoorLowOW
set_option linter.defProp false
set_option linter.unusedSimpArgs false
set_option linter.unusedVariables false
set_option maxHeartbeats 16000000
set_option maxRecDepth 100000
open Int renaming natCast_add→aaa,natCast_mul→aav,natCast_emod→aaB,natCast_ediv→aa9
open Nat renaming le_of_ble_eq_true→aab,eq_or_lt_of_le→aam,le_trans→aaw,mod_eq_of_lt→aax,le_refl→aaF,le_of_lt_succ→aaX,lt_succ_iff_lt_or_eq→aa3,zero_le→abc,xor_lt_two_pow→abe,mod_lt→abk,not_lt_zero→abl,add_zero→abP,sub_self→abQ,pow_succ→abS,mod_one→abU
open List renaming getElem?_eq_some_iff→aad,getElem?_eq_getElem→aae,mem_of_getElem?→aah,getD_eq_getElem?_getD→aan,mem_of_mem_take→aap,length_take→aaq,take_add_one→aat,mem_of_mem_drop→aau,take_of_length_le→aay,length_append→aaz,take_length→aaA,length_drop→aaD,mem_cons→aaE,mem_append→aaG,drop_eq_getElem_cons→aaH,mem_map→aaI,all_eq_true→aaJ,length_cons→aaM,drop_eq_nil_of_le→aaQ,mem_singleton→aaT,getElem?_of_mem→aaU,getElem_mem→aaV,getElem?_drop→aaW,range→aaY,not_mem_nil→aaZ,map_cons→aa0,length_pos_iff→aa2,replicate→aa5,append_assoc→aa6,cons_append→aa8,exists_of_findSome?_eq_some→aa_,drop_succ_cons→aba,drop_zero→abb,getElem?_take→abd,getElem?_append_right→abi,drop_drop→abn,getElem?_range→abr,map_nil→abv,getElem?_map→abz,ext_getElem→abB,nil_append→abD,length_set→abE,length_nil→abF,length_map→abG,take_zero→abI,mem_range→abJ,map_take→abK,length→abZ,cons→ab0
open Bool renaming and_eq_true→aal,true_and→abq,eq_iff_iff→abC
open Option renaming getD_some→aaK,isSome_iff_exists→aa4,map_eq_some_iff→aa7,toList_some→abh,isSome_some→abx,toList→abO
open UInt8 renaming ofNat→aaL,toNat→abm,toNat_ofNat'→abt,toNat_inj→abH
open BitVec renaming toNat_ofNat→aaS,toNat_xor→abA
namespace Go.Ev
open Go Go.RowKit
variable {G:aM}
def zsv[cO G](r:TR)(c:r.fr.length<=1000000)(d:r.to.length<=1000000):FP G 356 [TV r] (TV r):=by
 refine bD cO.aeB (aab rfl) ?_
 have e:r.fr.length*32<=140737488355328:=an
 have f:r.to.length*32<=140737488355328:=an
 by_cases a:r.fr=[]<;>by_cases b:r.to=[] <;>
  simp(disch:=omega)[TV,TR.cs,zxM,a,b,aC]
def zDN{t:List TR}{x y:TR}{i:Nat}(h:∀ j<i,∀ z,t[j]?=some z->wO z x=true)(b:t[i]?=some y)(c:wO y x=false):pH t x=i:=by
 induction t generalizing i with
 | nil=>simp at b
 | cons a t d =>
  cases i with
  | zero=>simp at b;subst b;simp[pH,c]
  | succ i =>
   have e:=h 0 an a rfl;have:=d (i:=i) (fun j g z f=>h (j+1) an z (by simpa using f)) (by simpa using b);simp only[pH] at this |-;simp[e,this]
def zBv{t:List TR}{x:TR}(h:∀ z∈t,wO z x=true):pH t x=t.length:=by
 induction t with
 | nil=>rfl
 | cons a t b =>
  have:=b fun z c=>h z (by simp[c]);simp only[pH] at this |-;simp[h a ir,this]
def zBw[az G][ej G][cO G](t:List TR)(x:TR)(U:t.length<=1000000)(M:∀ r∈t,r.ok)(N:∀ r∈t,r.may=true)(O:x.ok)(P:x.may=true)(H:ae)(p:im H) :
  SE G 355 [TF t,TV x,.fn 353 []] H (.a_ [.int .i64 (pH t x:Nat),.bool (qS t x)]):=by
 refine zEe cO.aeA (aab rfl) ?_;have J:=MR p;have K:∀ s:ae,aj H.length (H++s)=H:=fun s=>p.back s;have e:x.cs.length=3:=rfl;have f:x.cs.take 3=x.cs:=rfl
 have q:∀ n,aX n x.cs=x.cs:=fun n=>by simp[TR.cs,aX,V.cl,Tk.cl]
 have u:=fun s v=>MQ (G:=G) x O P s v;simp only[TV] at u;simp[TF,TV,la,iq,zB,xq];refine aQ t.length (fun i=>[(0,TF t),(2,.fn 353 []),(4,.ptr H.length 0),(10,TF t),(11,.int .i64 t.length),(12,.int .i64 i)]) (fun _=>H++[some (.cells x.cs)]) (fun i=>∀ j<i,∀ z,t[j]?=some z->wO z x=true) ?_ ?_
 ·simp[av,TF,J,aw.cl,q]
 intro i hi w
 by_cases A:i<t.length
 ·obtain⟨y,L⟩:∃ y,y=t[i]:=⟨_,rfl⟩
  have b:t[i]?=some y:=by rw[L];exact aae A
  have Q:=Hs b;have B:=N y (aah b);have C:=M y (aah b);have g:y.cs.length=3:=rfl;have k:y.cs.take 3=y.cs:=rfl
  have ky:∀ n,aX n y.cs=y.cs:=fun n=>by simp[TR.cs,aX,V.cl,Tk.cl]
  have R:(TL t)[i]'(by simpa using A)=y.cs:=by simp[TL,L]
  have D:=fun s v=>MQ (G:=G) y C B s v;simp only[TV] at D
  have l:im (H++[some (.cells x.cs),some (.cells y.cs)]):=p.app fun n=>by simp[aw.cl,q,ky]
  have E:¬H.length+2<=H.length:=an
  have F:¬H.length+2<=H.length+1:=an
  simp(disch:=omega)[bM,TF,Q,R,g,k,e,f,la,iq,zB,xq];refine SE.vcall (args:=[.agg y.cs]) (cap:=[]) (D _ l) rfl ?_;simp(disch:=omega)[F,E,g,k,e,f,la,iq,zB,xq];refine SE.vcall (args:=[.agg x.cs]) (cap:=[]) (u _ l) rfl ?_
  cases m:wO y x with
  | true =>
   have I:Op.bytesLess y.by x.by=true:=m
   have S:∀ j<i+1,∀ z,t[j]?=some z->wO z x=true:=fun j o z c=>by
    rcases aa3.1 o with h|rfl
    ·exact w j h z c
    ·rw[b] at c;cases c;exact m
   simp(disch:=omega)[I,A,bH,av,J,aw.cl,q,TF,-aaa]
   exact S
  | false =>
   have I:Op.bytesLess y.by x.by=false:=m;have d:=zDN w b m
   have a:qS t x=decide (y.by=x.by):=by rw[qS,d,b]
   simp(disch:=omega)[I,F,E,g,k,e,f,la,iq,zB,xq];refine SE.vcall (args:=[.agg y.cs]) (cap:=[]) (D _ l) rfl ?_;simp(disch:=omega)[F,E,g,k,e,f,la,iq,zB,xq];refine SE.vcall (args:=[.agg x.cs]) (cap:=[]) (u _ l) rfl ?_;simp[K,d,a];exact abC.2 ir
 ·have T:i=t.length:=an
  subst T
  have d:=zBv (t:=t) (x:=x) fun z c=>by
   obtain⟨j,o⟩:=aaU c;exact w j (aad.1 o).1 z o
  have a:qS t x=false:=by rw[qS,d,List.getElem?_eq_none (aaF _)]
  simp[TF,K,d,a]
def zDO[cO G](f g:List af)(r:f.length<=1000000):FP G 358 [FL f,FL g] (.bool (decide (f=g))):=by
 refine bD cO.aeD (aab rfl) ?_
 by_cases c:f.length=g.length
 ·have j:((f.length:Int) !=(g.length:Int))=false:=by simp[c]
  simp[FL,j];refine aQ f.length (fun i=>[(0,FL f),(1,FL g),(12,.int .i64 f.length),(13,.int .i64 i)]) (fun _=>[]) (fun i=>f.take i=g.take i) ?_ ?_
  ·simp[av,aj,FL,c]
  intro i hi k
  by_cases l:i<f.length
  ·obtain⟨x,a⟩:∃ x,x=f[i]:=⟨_,rfl⟩
   have p:i<g.length:=an
   obtain⟨y,b⟩:∃ y,y=g[i]:=⟨_,rfl⟩;have m:=tF l;have n:=tF p;rw[<-a] at m;rw[<-b] at n;have a:=a.symm;have b:=b.symm;have d:=Dy x y
   by_cases e:x=y
   ·rw[decide_eq_true e] at d
    have q:f.take (i+1)=g.take (i+1):=by rw[aat,aat,k,aae l,aae p,a,b,e]
    simp(disch:=omega)[bM,FL,m,n,a,b,d,l,bH,av,aj,q,-aaa]
   ·rw[decide_eq_false e] at d
    have o:¬f=g:=by rintro rfl;exact e (a.symm.trans b)
    simp(disch:=omega)[bM,FL,m,n,a,b,d,o,-aaa]
  ·have o:i=f.length:=an
   subst o;rw[aaA,c,aaA] at k;simp[FL,k]
 ·have j:((f.length:Int) !=(g.length:Int))=true:=by simp;omega
  have:¬f=g:=fun h=>c (by rw[h]);simp[FL,j,this]
def PC(t:List TR):(∀ f∈TL t,f.length=3)=True:=by simp only[eq_iff_iff,iff_true];intro f a;simp only[TL,aaI] at a;obtain⟨x,_,rfl⟩:=a;rfl
def zsw(r:TR):r.cs.all V.pure=true:=by simp[TR.cs]
def TY(t:List TR)(r:TR):TL t++[r.cs]=TL (t++[r]):=by simp[TL]
def zL2{a:Nat}(h:a<4294967296):iZ .u32 (a:Int) 262143=((a%262144:Nat):Int):=by unfold iZ;rw[show(262143:Int)=((262143:Nat):Int) from rfl,qp,qp,BitVec.toNat_and,aaS,aaS];have b:a%2^IntKind.u32.bits=a:=aax h;have c:262143%2^IntKind.u32.bits=2^18-1:=rfl;rw[b,c,Nat.and_two_pow_sub_one_eq_mod];exact vY (by have:=abk a (show 0<2^18 by decide);omega)
def pk:Option (List af)->V
 | some x=>.a_ [.vs (IL x) .no,.bool true]
 | none=>.a_ [.vs [] .no,.bool false]
def Jr{r:TR}(h:r.may=true):r.fr.length<=32/\r.to.length<=32:=by simp only[TR.may,aal] at h;exact⟨(Kc h.1.1.1).1,(Kc h.1.1.2).1⟩
def zDP[az G][ay G][aN G][ej G][cO G](t:List TR)(w:List af)(live:Nat)(u:t.length<=1000000)(v:∀ r∈t,r.ok)(y:live<4294967296) :
  FP G 359 [TF t,FL w,.int .u32 live] (pk (AD t w live)):=by
 refine bD cO.aeE (aab rfl) ?_;have a:=MW (G:=G) t u v;simp only[TF] at a;simp[TF];refine ax a ?_
 cases d:ef t with
 | false=>simp[AD,d,pk]
 | true =>
  have z:∀ r∈t,r.may=true:=fun r a=>by
   simp only[ef,aal] at d;exact aaJ.1 d.1.1 r a
  simp;refine aQ t.length (fun i=>[(1,FL w),(2,.int .u32 live),(13,TF t),(14,.int .i64 t.length),(15,.int .i64 i)]) (fun _=>[]) (fun i=>∀ j<i,∀ r,t[j]?=some r->(decide (r.fr=w)&&decide (live%262144=r.lv))=false) ?_ ?_
  ·simp[av,aj,TF,FL]
  intro i hi k
  by_cases e:i<t.length
  ·obtain⟨x,l⟩:∃ x,x=t[i]:=⟨_,rfl⟩
   have m:t[i]?=some x:=by rw[l];exact aae e
   have A:=Hs m;have B:=z x (aah m);obtain⟨F,H⟩:=Jr B
   have C:(TL t)[i]'(by simpa using e)=x.cs:=by simp[TL,l]
   have p:=zDO (G:=G) x.fr w an;simp only[FL] at p;simp(disch:=omega)[bM,TF,FL,A,C,TR.cs];refine ax p ?_;have n:=zL2 y
   have next:(decide (x.fr=w)&&decide (live%262144=x.lv))=false->∀ j<i+1,∀ r,t[j]?=some r->(decide (r.fr=w)&&decide (live%262144=r.lv))=false:=fun D j b r a=>by
    rcases aa3.1 b with h|rfl
    ·exact k j h r a
    ·rw[m] at a;cases a;exact D
   by_cases c:x.fr=w
   ·by_cases q:live%262144=x.lv
    ·have f:(((live%262144:Nat):Int)==(x.lv:Int))=true:=by simp;omega
     have g:AD t w live=some x.to:=by
      rw[AD,d,if_pos rfl]
      have:t.find? (fun r=>decide (r.fr=w)&&decide (live%262144=r.lv))=some x:=by rw[List.find?_eq_some_iff_getElem];refine⟨by simp[c,q],i,e,l.symm,fun j b=>?_⟩;rw[k j b _ (aae an)];rfl
      rw[this];rfl
     by_cases s:x.to=[]
     ·simp(disch:=omega)[c,n,f,s,g,pk,-aaB]
     ·simp(disch:=omega)[c,n,f,s,zxM,aC,g,pk,-aaB]
    ·have f:(((live%262144:Nat):Int)==(x.lv:Int))=false:=aO an;have:=next (by simp[q]);simp(disch:=omega)[c,n,f,e,bH,av,aj,TF,FL,-aaa,-aaB]
     exact fun j b r a o=>by have:=this j b r a;simpa[o] using this
   ·have:=next (by simp[c]);simp(disch:=omega)[c,e,bH,av,aj,TF,FL,-aaa,-aaB]
    exact fun j b r a o=>by have:=this j b r a;simpa[o] using this
  ·have E:i=t.length:=an
   subst E
   have g:AD t w live=none:=by rw[AD,d,if_pos rfl,Option.map_eq_none_iff,List.find?_eq_none];intro r a;obtain⟨j,b⟩:=aaU a;rw[k j (aad.1 b).1 r b];simp
   simp[g,pk]
def zBx[az G][ay G][aN G][ej G][cO G](t:List TR)(r:TR)(N:t.length<=1000000)(O:∀ r∈t,r.ok)(P:r.ok) :
  FP G 357 [TF t,TV r] (.a_ [TF (qw t r).1,.int .i64 (qw t r).2]):=by
 refine bD cO.aeC (aab rfl) ?_;have w:=MW (G:=G) t N O;have h:=zsR (G:=G) r P;have x:r.cs.length=3:=rfl;have z:r.cs.take 3=r.cs:=rfl
 have k:∀ n,aX n r.cs=r.cs:=fun n=>by simp[TR.cs,aX,V.cl,Tk.cl]
 simp only[TF,TV] at w h;simp[TF,TV];refine ax w ?_
 cases a:ef t with
 | false=>simp[qw,a]
 | true =>
  simp[x,z];refine ax h ?_
  cases f:r.may with
  | false=>simp[qw,a,f]
  | true =>
   have C:∀ r∈t,r.may=true:=fun r w=>by
    simp only[ef,aal] at a;exact aaJ.1 a.1.1 r w
   have zV:=(MV a).2;have Q:=zBw (G:=G) t r N O C P f [some (.cells r.cs)] (fun n _=>by simp[aw.cl,k]);simp only[TF,TV] at Q;simp[x,z];refine SE.scall Q rfl ?_
   cases b:qS t r with
   | true=>simp[qw,a,f,b]
   | false =>
    by_cases E:t.length=64
    ·have c:((t.length:Int)==64)=true:=by simp[E]
     simp[qw,a,f,b,E,c]
    ·have c:((t.length:Int)==64)=false:=aO an;have F:=zuy t r;obtain⟨p,H⟩:∃ p,p=pH t r:=⟨_,rfl⟩
     have Z:qw t r=(t.take p++r::t.drop p,0):=by simp[qw,a,f,b,E,H]
     rw[<-H] at F;rw[Z,<-H]
     have fc:(TL t).take p=TL (t.take p):=by simp[TL]
     have l:(TL t).drop p=TL (t.drop p):=by simp[TL]
     have t_:(t.take p).length=p:=by rw[aaq];omega
     have xV:=Jr f;have R:=zsv (G:=G) r an an;have oa:=zsw r;simp only[TV] at R;obtain⟨T,m⟩:∃ T:Nat->List TR,∀ j,T j=t.take j:=⟨_,fun _=>rfl⟩
     have v5:T 0=[]:=by rw[m];rfl
     have S:∀ j,j<=t.length->(T j).length=j:=fun j W=>by rw[m,aaq];omega
     simp(disch:=omega)[c,aC,fc,t_,PC]
     refine aQ p (fun i=>[(0,TF t),(3,.ptr 0 0),(6,.int .i64 p),(8,.vs (TL (T i)) (.own 1)),(38,.vs (TL (t.take p)) .no),(39,.int .i64 p),(40,.int .i64 i)])
      (fun i=>[some (.cells r.cs),some (.zone i)]) (fun _=>True) ?_ ?_
     ·simp[av,aj,TF,v5,TL,aw.cl,k]
     intro i hi _
     by_cases A:i<p
     ·obtain⟨y,I⟩:∃ y,y=t[i]'(by omega):=⟨_,rfl⟩
      have d:t[i]?=some y:=by rw[I];exact aae _
      have z5:(t.take p)[i]?=some y:=by rw[abd,if_pos A,d]
      have o:=Hs z5
      have J:(TL (t.take p))[i]'(by simp;omega)=y.cs:=by have:=aad.1 o;exact this.2
      have K:=Jr (C y (aah d));have q:=zsv (G:=G) y an an;simp only[TV] at q;have s:y.cs.length=3:=rfl;have u:y.cs.take 3=y.cs:=rfl;have e:=zsw y
      have g:TL (T i)++[y.cs]=TL (T (i+1)):=by rw[m,m,TY,aat,d];rfl
      have B:=S i an;simp(disch:=omega)[bM,o,J,s,u];refine ax q ?_;simp(disch:=omega)[s,u,e,g,B,PC,aC,A,bH,av,aj,TF,aw.cl,k,-aaa]
     ·have L:i=p:=an
      subst L;obtain⟨D,M⟩:∃ D,D=t.drop i:=⟨_,rfl⟩
      have X:D.length=t.length-i:=by rw[M,aaD]
      have g:TL (T i)++[r.cs]=TL (T i++[r]):=TY _ _;have B:=S i an;obtain⟨U,v⟩:∃ U:Nat->List TR,∀ j,U j=T i++[r]++D.take j:=⟨_,fun _=>rfl⟩
      have Y:T i++[r]=U 0:=by rw[v,abI,List.append_nil]
      have J_:∀ j,j<=D.length->(U j).length=i+1+j:=fun j W=>by rw[v,aaz,aaz,B,aaq];simp;omega
      rw[Y] at g;simp[bM,x,z];refine ax R ?_;rw[<-M] at l |-
      have BP:(TL D).take (t.length-i)=TL D:=by rw[aay];simp;omega
      simp(disch:=omega)[TF,BP,x,z,oa,g,B,PC,aC,l,X]
      refine aQ D.length (fun j=>[(8,.vs (TL (U j)) (.own 1)),(57,.vs (TL D) .no),(58,.int .i64 D.length),(59,.int .i64 j)])
       (fun j=>[some (.cells r.cs),some (.zone (i+1+j)),none]) (fun _=>True) ?_ ?_
      ·simp[av,aj,Y,aw.cl,k,X]
      intro j W _
      by_cases A:j<D.length
      ·obtain⟨y,I⟩:∃ y,y=D[j]'(by omega):=⟨_,rfl⟩
       have d:D[j]?=some y:=by rw[I];exact aae _
       have o:=Hs d;have J:(TL D)[j]'(by simp;omega)=y.cs:=(aad.1 o).2
       have PE:y∈t:=by have:=aah d;rw[M] at this;exact aau this
       have K:=Jr (C y PE);have q:=zsv (G:=G) y an an;simp only[TV] at q;have s:y.cs.length=3:=rfl;have u:y.cs.take 3=y.cs:=rfl;have e:=zsw y
       have g:TL (U j)++[y.cs]=TL (U (j+1)):=by rw[v,v,TY,aat,d];simp
       have h_:=J_ j an;simp(disch:=omega)[bM,o,J,s,u];refine ax q ?_;simp(disch:=omega)[s,u,e,g,h_,PC,aC,A,bH,av,aj,aw.cl,k,-aaa];omega
      ·have L:j=D.length:=an
       subst L
       have cK:U D.length=t.take i++r::D:=by rw[v,aaA,m];simp
       simp[cK]
def xH(b:List Nat)(k:Nat):af:=⟨(b.getD (8*k) 0+256*b.getD (8*k+1) 0:Nat),b.getD (8*k+2) 0,b.getD (8*k+3) 0,b.getD (8*k+4) 0+256*b.getD (8*k+5) 0+65536*b.getD (8*k+6) 0+16777216*b.getD (8*k+7) 0⟩
def oI(b:List Nat):List af:=(aaY (b.length/8)).map (xH b)
def pq(b:List Nat):Option (List af):=if b.length<=32768/\b.length%8=0/\(oI b).all jX=true then some (oI b) else none
def zEA(l:List Nat)(h:8<=l.length):∃ a b c d e f g i r,l=a::b::c::d::e::f::g::i::r:=by
 match l,h with
 | a::b::c::d::e::f::g::i::r,_=>exact⟨a,b,c,d,e,f,g,i,r,rfl⟩
def zHs{a b c d e f g i:Nat}(h:∀ x∈[a,b,c,d,e,f,g,i],x<256)(r:List Nat) :
  m9 (xH (a::b::c::d::e::f::g::i::r) 0)=[a,b,c,d,e,f,g,i]:=by
 simp only[aaE,aaZ,or_false,forall_eq_or_imp,forall_eq] at h;obtain⟨j,k,l,m,n,o,p,q⟩:=h;simp[m9,xH,gn,aaY,aaY.loop];omega
def zF2{c b:List Nat}(d:c.length=8)(k:Nat):xH (c++b) (k+1)=xH b k:=by
 have e:∀ i,(c++b).getD (8*(k+1)+i) 0=b.getD (8*k+i) 0:=fun i=>by
  rw[aan,aan,abi an]
  congr 2;omega
 have a:=e 0;simp only[abP] at a;simp only[xH,e,a]
def zBy{c b:List Nat}(a:c.length=8):oI (c++b)=xH (c++b) 0::oI b:=by
 unfold oI;rw[aaz,a,show(8+b.length)/8=b.length/8+1 by omega,List.range_succ_eq_map,aa0,List.map_map]
 congr 1
 refine List.map_congr_left fun k _=>?_;exact zF2 a k
def zvW:∀(n:Nat) {b:List Nat},b.length=8*n->(∀ x∈b,x<256)->kM (oI b)=b
 | 0,b,h,_=>by
  have:b=[]:=List.length_eq_zero_iff.1 an
  subst this;rfl
 | n+1,b,h,m=>by
  obtain⟨a,d,e,f,g,i,j,k,r,rfl⟩:=zEA b an;have:=zBy (c:=[a,d,e,f,g,i,j,k]) (b:=r) rfl;simp only[aa8,abD] at this;rw[this,show ∀(x:af) (w:List af),kM (x::w)=m9 x++kM w from fun _ _=>rfl,zHs (fun x l=>m x (by rw[show a::d::e::f::g::i::j::k::r=[a,d,e,f,g,i,j,k]++r from rfl];exact List.mem_append_left _ l)) r,zvW n (by simp at h;omega) (fun x l=>m x (by simp[l]))]
  rfl
def abM{b:List Nat}(a:∀ x∈b,x<256)(k:Nat):(xH b k).k<4294967296:=by
 have e:∀ i,b.getD i 0<256:=fun i=>by
  rw[aan]
  cases h:b[i]? with
  | none=>simp
  | some x=>exact a x (aah h)
 have c:=e (8*k+4);have d:=e (8*k+5);have f:=e (8*k+6);have g:=e (8*k+7);simp only[xH];omega
def ztQ{b:List Nat}{w:List af}(a:∀ x∈b,x<256)(h:pq b=some w):kM w=b/\(∀ x∈w,jX x=true)/\(∀ x∈w,x.k<4294967296)/\w.length<=4096:=by
 unfold pq at h;split at h
 ·rename_i d;obtain⟨f,g,e⟩:=d;cases h;refine⟨zvW (b.length/8) an a,by simpa using e,fun x c=>?_,by simp[oI];omega⟩;simp only[oI,aaI] at c;obtain⟨k,_,rfl⟩:=c;exact abM a k
 ·cases h
def abN{a b:Nat}(c:a<256)(d:b<256):uK .i64 (a:Int) (jc .i64 (b:Int) 8)=((a+256*b:Nat):Int):=by
 have h:=Sc (a:=b) (j:=8) an an;rw[show((8:Nat):Int)=8 from rfl] at h;rw[h,DB an an,Nat.mul_comm,Nat.or_comm,<-Nat.two_pow_add_eq_or_of_lt (i:=8) an]
 congr 1;omega
def zrv[az G][ig G](b:List Nat)(o:∀ x∈b,x<256)(hl:b.length<=1000000):∃ e:Int,FP G 429 [.vs (ak .u8 b) .no] (.a_ [FL ((pq b).getD []),.int .i64 e])/\((e==0)=(pq b).isSome):=by
 by_cases X:32768<b.length
 ·have d:pq b=none:=if_neg fun h=>by omega
  refine⟨3,?_,by rw[d];rfl⟩;refine bD ig.adF (aab rfl) ?_;have t:(32768<(b.length:Int))=True:=eq_true an;rw[d];simp[t,FL]
 have t:(32768<(b.length:Int))=False:=eq_false an;have Y:mV (b.length:Int) 8=((b.length%8:Nat):Int):=Cl (b:=8)
 by_cases w:b.length%8=0
 rotate_left
 ·have d:pq b=none:=if_neg fun h=>by omega
  refine⟨9,?_,by rw[d];rfl⟩;refine bD ig.adF (aab rfl) ?_
  have Z:(((b.length%8:Nat):Int) !=0)=true:=by simp;omega
  rw[d];simp[t,Y,Z,FL,-aaB]
 have Z:(((b.length%8:Nat):Int) !=0)=false:=by simp;omega
 obtain⟨N,hN⟩:∃ N,b.length=8*N:=⟨b.length/8,an⟩
 have nK:(oI b).length=N:=by simp[oI];omega
 have y:∀ k,k<N->(oI b)[k]?=some (xH b k):=fun k p=>by
  unfold oI;rw[abz,abr an];rfl
 obtain⟨R,A⟩:∃ R,R=pq b:=⟨_,rfl⟩
 have C:∀ k,k<N->jX (xH b k)=false->R=none:=fun k p h=>by
  rw[A];refine if_neg fun hc=>?_;have:=aaJ.1 hc.2.2 _ (aah (y k p));rw[h] at this;cases this
 have cJ:(∀ k,k<N->jX (xH b k)=true)->R=some (oI b):=fun h=>by
  rw[A];refine if_pos ⟨an,w,aaJ.2 fun x a=>?_⟩;obtain⟨k,p⟩:=aaU a
  have F:k<N:=by have:=(aad.1 p).1;omega
  rw[y k F] at p;cases p;exact h k F
 rw[<-A];obtain⟨E,H⟩:∃ E:V->Prop,∀ r,E r↔∃ e:Int,r=.a_ [FL (R.getD []),.int .i64 e]/\((e==0)=R.isSome):=⟨_,fun _=>Iff.rfl⟩
 suffices hs:∃ r,FP G 429 [.vs (ak .u8 b) .no] r/\E r by
  obtain⟨r,I,J⟩:=hs;obtain⟨e,rfl,L⟩:=(H r).1 J;exact⟨e,I,L⟩
 refine KO ig.adF (aab rfl) ?_;obtain⟨B,q⟩:∃ B:Nat->List Nat,∀ k,B k=b.drop (8*k):=⟨_,fun _=>rfl⟩;obtain⟨D,hD⟩:∃ D,D=oI b:=⟨_,rfl⟩;rw[<-hD] at nK y cJ
 have Cq:B 0=b:=by rw[q];rfl
 have Dz:∀ k,(B k).length=8*N-8*k:=fun k=>by rw[q,aaD,hN]
 have J6:mV (b.length:Int) 8=0:=by rw[Y,w];rfl
 rw[<-Cq] at t J6;rw[show ak .u8 b=ak .u8 (B 0) by rw[Cq]];simp[t,J6];refine aQ N (fun k=>[(0,.vs (ak .u8 (B k)) .no),(4,.vs (IL (D.take k)) (.own 0))]) (fun k=>[some (.zone k)]) (fun k=>∀ j<k,jX (xH b j)=true) ?_ ?_
 ·simp[av,aj]
 intro k F jG;have jk:=Dz k
 by_cases M:k<N
 ·obtain⟨f,g,l,m,a4,a5,a6,a7,r,n⟩:=zEA (B k) an;have s:∀ x∈B k,x<256:=fun x a=>o x (aau (by rw[q] at a;exact a))
  have O:f<256/\g<256/\l<256/\m<256/\a4<256/\a5<256/\a6<256/\a7<256:=by rw[n] at s;simp only[aaE,forall_eq_or_imp] at s;obtain⟨P,I,J,L,h4,h5,h6,h7,_⟩:=s;exact⟨P,I,J,L,h4,h5,h6,h7⟩
  obtain⟨m0,m1,m2,m3,m4,m5,m6,m7⟩:=O
  have gd:∀ i,b.getD (8*k+i) 0=(B k).getD i 0:=fun i=>by
   rw[q,aan,aan,aaW]
  have u:=gd 0;simp only[abP] at u;obtain⟨x,a⟩:∃ x,x=xH b k:=⟨_,rfl⟩;obtain⟨K,hK⟩:∃ K,K=a4+256*a5+65536*a6+16777216*a7:=⟨_,rfl⟩
  have fy:x=⟨(f+256*g:Nat),l,m,K⟩:=by rw[a,xH,gd,gd,gd,gd,gd,gd,gd,u,n,hK];rfl
  have vh:K<4294967296:=an
  have b0:(B k)[0]?=some f:=by rw[n];rfl
  have b1:(B k)[1]?=some g:=by rw[n];rfl
  have b2:(B k)[2]?=some l:=by rw[n];rfl
  have b3:(B k)[3]?=some m:=by rw[n];rfl
  have bk:∀ i,i<4->(B k)[4+i]?=some (K/256^i%256):=by
   intro i hi;rw[n]
   have:i=0\/i=1\/i=2\/i=3:=an
   rcases this with rfl|rfl|rfl|rfl<;>simp<;>omega
  have f0:=(aad.1 b0).2;have f1:=(aad.1 b1).2;have f2:=(aad.1 b2).2;have f3:=(aad.1 b3).2;have kq:(0<(B k).length)=True:=eq_true an
  have Ka:(B k).drop 8=B (k+1):=by rw[q,q,abn];congr 1
  have c:∀ b:Nat,b<256->fV .i64 (b:Int)=(b:Int):=fun b o=>IntWalk.i64_in _ ⟨an,an⟩;have MK:∀ b:Nat,b<256->fV .u32 (b:Int)=(b:Int):=fun b o=>IntWalk.u32_in _ ⟨an,an⟩;have c0:=c f m0;have X:=c g m1;have w:=c l m2;have c3:=c m m3;have ho:=abN m0 m1;simp(disch:=omega)[kq,f0,f1,f2,f3,c0,X,w,c3,ho,-aaa,-aav];have wR:=J9 (G:=G) x
  have DC:x.cs=[.int .i64 ((f+256*g:Nat):Int),.int .i64 (l:Int),.int .i64 (m:Int),.int .u32 (K:Int)]:=by rw[af.cs,fy]
  simp only[IV,DC] at wR;obtain⟨v,z⟩:∃ v:Nat->Nat,∀ i,v i=K%256^i:=⟨_,fun _=>rfl⟩
  have ML:v 0=0:=by rw[z];simp[abU]
  have Kb:v 4=K:=by rw[z];exact aax vh
  refine aQ 4 (fun i=>[(0,.vs (ak .u8 (B k)) .no),(4,.vs (IL (D.take k)) (.own 0)),(5,.ptr 1 0),(40,.int .i64 i)]) (fun i=>[some (.zone k),some (.cells [.int .i64 (f+256*g:Nat),.int .i64 l,.int .i64 m,.int .u32 (v i)])]) (fun _=>True) ?_ ?_
  ·simp[av,aj,ML,-aaa,-aav]
  intro i hi _
  by_cases Q:i<4
  ·have o:=bk i Q;have s:K/256^i%256<256:=abk _ (by decide);have S:=Wa K i Q vh;rw[<-z,<-z] at S;obtain⟨T,AF⟩:∃ T,T=K/256^i%256:=⟨_,rfl⟩;rw[<-AF] at o s S
   have m8:eO .i64 8 (i:Int)=((8*i:Nat):Int):=by unfold eO;rw[show((8:Int)*(i:Int))=((8*i:Nat):Int) by omega];exact IntWalk.i64_in _ ⟨an,an⟩
   have U:aE .i64 4 (i:Int)=((4+i:Nat):Int):=by rw[ey]<;>omega
   have cb:=MK T s;have fb:=(aad.1 o).2;have MN:(((8*i:Nat):Int)<0)=False:=eq_false an;have AG:((i:Int)<4)=True:=eq_true an;simp(disch:=omega)[AG,MN,fb,m8,U,cb,S,av,aj,bH,Q,-aaa,-aav]
  ·have:i=4:=an
   subst this;simp(disch:=omega)[Kb,-aaa,-aav];refine ax wR ?_
   cases E2:jX x with
   | false =>
    have d:=C k M (by rw[<-a];exact E2);have W:E (.a_ [.vs [] .no,.int .i64 2]):=(H _).2 ⟨2,by rw[d];rfl,by rw[d];rfl⟩
    simpa[av,aj] using W
   | true =>
   have jI:((k+1)*32<=140737488355328)=True:=eq_true an
   have gE:(D.take k).length=k:=by rw[aaq];omega
   have eE:IL (D.take k)++[[.int .i64 ((f+256*g:Nat):Int),.int .i64 (l:Int),.int .i64 (m:Int),.int .u32 (K:Int)]]=IL (D.take (k+1)):=by rw[<-DC,Mx,aat,y k M,<-a];rfl
   have h8:((8:Int)<=((B k).length:Int))=True:=eq_true an;have lJ:(B (k+1)).take ((B k).length-8)=B (k+1):=aay (by rw[<-Ka,aaD];omega);simp(disch:=omega)[av,aj,jI,gE,eE,h8,AH,x8,Ka,lJ,M,-aaa,-aav];intro j hj
   rcases aam (aaX hj) with h|h
   ·rw[h,<-a];exact E2
   ·exact jG j h
 ·have:k=N:=an
  subst this;have P:(0<(B k).length)=False:=eq_false an;have hr:=cJ jG;have fc:D.take k=D:=aay an;have W:E (.a_ [.vs (IL D) .no,.int .i64 0]):=(H _).2 ⟨0,by rw[hr];rfl,by rw[hr];rfl⟩;simp(disch:=omega)[P,fc];exact W
def PF(r:Nat):Nat:=(r/2) ^^^ (3988292384*(r%2))
def zDQ{r:Nat}(h:r<4294967296):PF r<4294967296:=by unfold PF;exact abe (n:=32) an an
def zDR{r:Nat}(h:r<4294967296):vl .u32 (jR .u32 (r:Int) 1) (eO .u32 3988292384 (iZ .u32 (r:Int) 1))=(PF r:Nat):=by
 have c:iZ .u32 (r:Int) 1=((r%2:Nat):Int):=by have:=Io (a:=r) (b:=1) h (by decide);rw[show((1:Nat):Int)=1 from rfl] at this;rw[this,Nat.and_one_is_mod]
 have d:jR .u32 (r:Int) 1=((r/2:Nat):Int):=by have:=Ae (a:=r) (j:=1) (by decide);simpa using this
 have e:eO .u32 3988292384 ((r%2:Nat):Int)=((3988292384*(r%2):Nat):Int):=by unfold eO;rw[show(3988292384:Int)*((r%2:Nat):Int)=((3988292384*(r%2):Nat):Int) by omega];exact IntWalk.u32_in _ ⟨an,an⟩
 rw[c,d,e,X9 an an];rfl
def Js:Nat->Nat->Nat
 | 0,r=>r
 | n+1,r=>PF (Js n r)
def zox{r:Nat}(h:r<4294967296):∀ n,Js n r<4294967296
 | 0=>h
 | n+1=>zDQ (zox h n)
def PG(r x:Nat):Nat:=Js 8 (r ^^^ x)
def PH(b:List Nat):Nat:=b.foldl PG 4294967295
def B3(b:List Nat):Nat:=4294967295-PH b
def GF(b:List Nat):List Nat:=b++gn (B3 b) 4
def zxZ:∀(b:List Nat) (r:Nat),r<4294967296->(∀ x∈b,x<256)->b.foldl PG r<4294967296
 | [],r,h,_=>h
 | x::b,r,h,a=>zxZ b _ (zox (abe (n:=32) h (by have:=a x ir;omega)) 8) (fun y c=>a y (by simp[c]))
def zvX{b:List Nat}(a:∀ x∈b,x<256):∀ x∈GF b,x<256:=by
 intro x c
 rcases aaG.1 c with h|h
 ·exact a x h
 ·simp only[gn,aaI,abJ] at h;obtain⟨j,_,rfl⟩:=h;exact abk _ (by decide)
def zHt[bx G](b:List Nat)(o:∀ x∈b,x<256)(I:b.length<=1000000):FP G 472 [.vs (ak .u8 b) .no] (.int .u32 (B3 b:Nat)):=by
 refine bD bx.afA (aab rfl) ?_;obtain⟨R,c⟩:∃ R:Nat->Nat,∀ i,R i=(b.take i).foldl PG 4294967295:=⟨_,fun _=>rfl⟩
 have j:R 0=4294967295:=by rw[c];rfl
 have t:PH b=R b.length:=by rw[c,aaA];rfl
 have l:∀ i,R i<4294967296:=fun i=>by rw[c];exact zxZ _ _ (by decide) (fun x d=>o x (aap d))
 have u:∀ i x,b[i]?=some x->R (i+1)=PG (R i) x:=fun i x h=>by rw[c,c,aat,h,abh,List.foldl_append];rfl
 rw[B3,t];simp;refine aQ b.length (fun i=>[(3,.int .u32 (R i:Nat)),(6,.vs (ak .u8 b) .no),(7,.int .i64 b.length),(8,.int .i64 i)]) (fun _=>[]) (fun _=>True) ?_ ?_
 ·simp[av,aj,j]
 intro i hi _
 rcases aam hi with f|p
 ·subst f
  have v:AK .u32 (R b.length:Int)=((4294967295-R b.length:Nat):Int):=by
   have:=l b.length;unfold AK;rw[show(if IntKind.u32.signed=true then(-1:Int) else IntKind.u32.max)=((4294967295:Nat):Int) from rfl,qp,qp,abA,aaS,aaS];simp only[IntKind.bits];rw[aax (show 4294967295<2^32 by decide),aax (show R b.length<2^32 from this)]
   have e:4294967295 ^^^ R b.length=4294967295-R b.length:=by
    have q:(BitVec.allOnes 32 ^^^ BitVec.ofNat 32 (R b.length)).toNat=2^32-1-R b.length:=by rw[BitVec.allOnes_xor,BitVec.toNat_not,aaS,aax (show R b.length<2^32 from this)]
    rw[abA,BitVec.toNat_allOnes,aaS,aax (show R b.length<2^32 from this)] at q;exact q
   rw[e];exact vY an
  simp[v]
 ·obtain⟨x,d⟩:∃ x,b[i]?=some x:=⟨_,aae p⟩;obtain⟨_,w⟩:=aad.1 d;have J:=o x (aah d);have y:((i:Int)<(b.length:Int))=True:=eq_true an
  have z:aE .i64 (i:Int) 1=((i+1:Nat):Int):=by rw[ey]<;>omega
  have A:fV .u32 (x:Int)=(x:Int):=IntWalk.u32_in _ ⟨an,an⟩;have s:=X9 (a:=R i) (b:=x) (l i) an;have g:=u i x d;obtain⟨r,m⟩:∃ r,r=R i ^^^ x:=⟨_,rfl⟩
  have B:r<4294967296:=by rw[m];exact abe (n:=32) (l i) an
  rw[<-m] at s;rw[PG,<-m] at g;simp(disch:=omega)[y,w,A,s];refine aQ 8 (fun k=>[(3,.int .u32 (Js k r:Nat)),(6,.vs (ak .u8 b) .no),(7,.int .i64 b.length),(8,.int .i64 i),(16,.int .i64 k)]) (fun _=>[]) (fun _=>True) ?_ ?_
  ·simp[av,aj,Js]
  intro k C _
  rcases aam C with f|D
  ·subst f;simp[av,aj,z,p,g,-aaa]
  ·have E:((k:Int)<8)=True:=eq_true an
   have F:aE .i64 (k:Int) 1=((k+1:Nat):Int):=by rw[ey]<;>omega
   have H:=zDR (zox B k);have f:Js (k+1) r=PF (Js k r):=rfl;simp[E,F,H,f,D,av,aj,-aaa]
def zx0[bx G](b:List Nat)(m:∀ x∈b,x<256)(n:b.length<=1000000):FP G 474 [.vs (ak .u8 b) .no] (.vs (ak .u8 (GF b)) .no):=by
 refine bD bx.afC (aab rfl) ?_;have h:=zHt (G:=G) b m n;obtain⟨c,g⟩:∃ c,c=B3 b:=⟨_,rfl⟩
 have s:c<4294967296:=by rw[g,B3];omega
 have i:jR .u32 (c:Int) 8=((c/256:Nat):Int):=by have:=Ae (a:=c) (j:=8) (by decide);simpa using this
 have d:jR .u32 (c:Int) 16=((c/65536:Nat):Int):=by have:=Ae (a:=c) (j:=16) (by decide);simpa using this
 have e:jR .u32 (c:Int) 24=((c/16777216:Nat):Int):=by have:=Ae (a:=c) (j:=24) (by decide);simpa using this
 have o:(b.length<=140737488355328)=True:=eq_true an;have p:(b.length+4<=140737488355328)=True:=eq_true an
 have q:(∀ f∈ak .u8 b,f.length=1)=True:=by simp only[eq_iff_iff,iff_true];intro f k;simp only[ak,aaI] at k;obtain⟨_,_,rfl⟩:=k;rfl
 have r:ak .u8 (GF b)=ak .u8 b++[[.int .u8 ((c%256:Nat):Int)],[.int .u8 ((c/256%256:Nat):Int)],[.int .u8 ((c/65536%256:Nat):Int)],[.int .u8 ((c/16777216%256:Nat):Int)]]:=by simp[GF,<-g,gn,aaY,aaY.loop,ak]
 rw[r];rw[<-g] at h;simp;refine ax h ?_
 by_cases l:ak .u8 b=[]
 ·simp[l,i,d,e,J8,-aa9,-aaB];omega
 ·simp[l,i,d,e,J8,o,p,q,-aa9,-aaB];omega
def oJ(b:List Nat):List Nat×Nat:=if b.length<4 then([],9) else if GF (b.take (b.length-4))=b then(b.take (b.length-4),0) else([],10)
def zjy:∀{a b:List Nat},(∀ x∈a,x<256)->(∀ x∈b,x<256)->a.map aaL=b.map aaL->a=b
 | [],[],_,_,_=>rfl
 | [],_::_,_,_,h=>by simp at h
 | _::_,[],_,_,h=>by simp at h
 | x::a,y::b,d,f,h=>by
  simp only[aa0,ab0.injEq] at h;have g:=d x ir;have i:=f y ir;have e:=congrArg abm h.1;simp only[abt] at e;rw[aax an,aax an] at e;rw[e,zjy (fun z c=>d z (by simp[c])) (fun z c=>f z (by simp[c])) h.2]
def zF3[bx G](b:List Nat)(j:∀ x∈b,x<256)(w:b.length<=1000000):FP G 473 [.vs (ak .u8 b) .no] (.a_ [.vs (ak .u8 (oJ b).1) .no,.int .i64 ((oJ b).2:Nat)]):=by
 refine bD bx.afB (aab rfl) ?_;have n1:c_ .i64 (b.length:Int) 4=(b.length:Int)-4:=oW an an;unfold oJ
 by_cases o:b.length<4
 ·have c:((b.length:Int)-4<0)=True:=eq_true an;rw[if_pos o];simp[n1,c,ak]
 rw[if_neg o];obtain⟨n,r⟩:∃ n,n=b.length-4:=⟨_,rfl⟩
 have s:(b.length:Int)-4=(n:Int):=an
 rw[s] at n1;rw[<-r];have a:∀ x∈b.take n,x<256:=fun x t=>j x (aap t);have k:=zx0 (G:=G) (b.take n) a (by rw[aaq];omega);have p:=MO _ (zvX a);have l:=MO _ j;have c:((n:Int)<0)=False:=eq_false an;have d:((n:Int)<=(b.length:Int))=True:=eq_true an;have e:((0:Int)<=(n:Int))=True:=eq_true an;have y:((b.take n).length<=140737488355328)=True:=eq_true (by rw[aaq];omega)
 have u:(b.take n).length=n:=by rw[aaq];omega
 have m:(n<=140737488355328)=True:=eq_true an
 have v:(∀ f∈ak .u8 (b.take n),f.length=1)=True:=by simp only[eq_iff_iff,iff_true];intro f q;simp only[ak,aaI] at q;obtain⟨_,_,rfl⟩:=q;rfl
 by_cases g:GF (b.take n)=b
 ·rw[if_pos g];rw[g] at k p;simp[n1,e,c,d,x8];refine ax k ?_
  by_cases i:ak .u8 (b.take n)=[]
  ·simp[i,l,e,d,x8]
  ·simp[i,l,e,d,x8,m,u,v]
 ·rw[if_neg g]
  have i:((GF (b.take n)).map aaL==b.map aaL)=false:=by rw[beq_eq_false_iff_ne];exact fun h=>g (zjy (zvX a) j h)
  simp[n1,e,c,d,x8];refine ax k ?_;simp[p,l,i]
def lvN(b:List Nat):Nat:=b.getD 0 0+256*b.getD 1 0+65536*b.getD 2 0+16777216*b.getD 3 0
def uw(b:List Nat):Option (TR×List Nat) :=
 if b.length<6 then none
 else if(b.drop 6).length<8*b.getD 4 0+8*b.getD 5 0 then none
 else match pq ((b.drop 6).take (8*b.getD 4 0)),pq (((b.drop 6).drop (8*b.getD 4 0)).take (8*b.getD 5 0)) with
  | some f,some g=>some (⟨f,g,lvN b⟩,(b.drop 6).drop (8*b.getD 4 0+8*b.getD 5 0))
  | _,_=>none
def zx1{b q:List Nat}{r:TR}(c:∀ x∈b,x<256)(h:uw b=some (r,q)):r.ok/\(∀ x∈q,x<256)/\q.length<b.length:=by
 unfold uw at h;split at h
 ·cases h
 rename_i n;split at h
 ·cases h
 have hd:∀ x∈b.drop 6,x<256:=fun x a=>c x (aau a);split at h
 ·rename_i f g d j;cases h;obtain⟨_,o,k,p⟩:=ztQ (fun x a=>hd x (aap a)) d;obtain⟨_,s,l,t⟩:=ztQ (fun x a=>hd x (aau (aap a))) j
  have e:∀ i,b.getD i 0<256:=fun i=>by
   rw[aan]
   cases h:b[i]? with
   | none=>simp
   | some x=>exact c x (aah h)
  have u:=e 0;have v:=e 1;have w:=e 2;have y:=e 3
  have m:lvN b<4294967296:=by unfold lvN;omega
  refine⟨⟨by simp only[maxLen];omega,by simp only[maxLen];omega,k,l,m⟩,fun x a=>hd x (aau a),by simp;omega⟩
 ·cases h
def six(l:List Nat)(h:6<=l.length):∃ a b c d e f r,l=a::b::c::d::e::f::r:=by
 match l,h with
 | a::b::c::d::e::f::r,_=>exact⟨a,b,c,d,e,f,r,rfl⟩
def zBz[az G][ig G][bx G](b:List Nat)(I:∀ x∈b,x<256)(hl:b.length<=1000000) :
  ∃ r q,FP G 475 [.vs (ak .u8 b) .no] (.a_ [TV r,.vs (ak .u8 q) .no,.bool (uw b).isSome])/\∀ r' j,uw b=some (r',j)->r=r'/\q=j:=by
 obtain⟨R,J⟩:∃ R,R=uw b:=⟨_,rfl⟩;rw[<-J];obtain⟨E,z⟩:∃ E:V->Prop,∀ v,E v↔∃ r q,v=.a_ [TV r,.vs (ak .u8 q) .no,.bool R.isSome]/\∀ r' j,R=some (r',j)->r=r'/\q=j:=⟨_,fun _=>Iff.rfl⟩
 suffices hs:∃ r,FP G 475 [.vs (ak .u8 b) .no] r/\E r by
  obtain⟨r,a,A⟩:=hs;obtain⟨x,q,rfl,h3⟩:=(z r).1 A;exact⟨x,q,a,h3⟩
 refine KO bx.afD (aab rfl) ?_
 by_cases W:b.length<6
 ·have s:R=none:=by rw[J];exact if_pos W
  have L:((b.length:Int)<6)=True:=eq_true an;have k:E (.a_ [.agg [.vs [] .no,.vs [] .no,.int .u32 0],.vs [] .no,.bool false]):=(z _).2 ⟨⟨[],[],0⟩,[],by rw[s];rfl,by rw[s];intro _ _ h;cases h⟩;simp[L];exact k
 have L:((b.length:Int)<6)=False:=eq_false an;obtain⟨a0,a1,a2,a3,B,C,c,d⟩:=six b an;have l:=I;rw[d] at l;simp only[aaE,forall_eq_or_imp] at l;obtain⟨m0,m1,m2,m3,X,Y,Z⟩:=l;obtain⟨n,s⟩:∃ n,n=8*B:=⟨_,rfl⟩;obtain⟨m,Dl⟩:∃ m,m=8*C:=⟨_,rfl⟩;obtain⟨K,hK⟩:∃ K,K=a0+256*a1+65536*a2+16777216*a3:=⟨_,rfl⟩
 have Sz:K<4294967296:=an
 have o:R=if c.length<n+m then none else match pq (c.take n),pq ((c.drop n).take m) with
   | some f,some g=>some (⟨f,g,K⟩,c.drop (n+m))
   | _,_=>none:=by
  rw[J,s,Dl,hK,uw,if_neg W,d];rfl
 have jQ:c.length+6=b.length:=by rw[d];simp
 have b4:b[4]?=some B:=by rw[d];rfl
 have b5:b[5]?=some C:=by rw[d];rfl
 have bk:∀ i,i<4->b[i]?=some (K/256^i%256):=by
  intro i hi;rw[d]
  have:i=0\/i=1\/i=2\/i=3:=an
  rcases this with rfl|rfl|rfl|rfl<;>simp<;>omega
 have f4:=(aad.1 b4).2;have f5:=(aad.1 b5).2
 have t:b.drop 6=c:=by rw[d];rfl
 obtain⟨u,F⟩:∃ u:Nat->Nat,∀ i,u i=K%256^i:=⟨_,fun _=>rfl⟩
 have ML:u 0=0:=by rw[F];simp[abU]
 have Kb:u 4=K:=by rw[F];exact aax Sz
 have w:∀ x:Nat,x<256->fV .i64 (x:Int)=(x:Int):=fun b I=>IntWalk.i64_in _ ⟨an,an⟩;have MK:∀ x:Nat,x<256->fV .u32 (x:Int)=(x:Int):=fun b I=>IntWalk.u32_in _ ⟨an,an⟩
 have M:∀ i:Nat,i<256->eO .i64 8 (i:Int)=((8*i:Nat):Int):=fun i hi=>by
  unfold eO;rw[show((8:Int)*(i:Int))=((8*i:Nat):Int) by omega];exact IntWalk.i64_in _ ⟨an,an⟩
 have e4:=w B X;have e5:=w C Y;have N:=M B X;have O:=M C Y;rw[<-s] at N;rw[<-Dl] at O;simp[L];refine aQ 4 (fun i=>[(0,.vs (ak .u8 b) .no),(2,.ptr 0 0),(5,.ptr 1 0),(15,.int .i64 i)]) (fun i=>[some (.cells [.vs [] .full,.vs [] .full,.int .u32 0]),some (.cells [.vs [] .full,.vs [] .full,.int .u32 (u i)])]) (fun _=>True) ?_ ?_
 ·simp[av,aj,aw.cl,aX,V.cl,Tk.cl,ML]
 intro i hi _
 by_cases P:i<4
 ·have RF:=bk i P;have l:=abk (K/256^i) (show 0<256 by decide);have Q:=Wa K i P Sz;rw[<-F,<-F] at Q;obtain⟨S,AF⟩:∃ S,S=K/256^i%256:=⟨_,rfl⟩;rw[<-AF] at RF l Q;have cb:=MK S l;have fb:=(aad.1 RF).2;have MN:(((8*i:Nat):Int)<0)=False:=eq_false an;have AG:((i:Int)<4)=True:=eq_true an
  have we:i<b.length:=an
  have mi:=M i an;simp(disch:=omega)[AG,MN,fb,mi,cb,Q,av,aj,aw.cl,aX,V.cl,Tk.cl,bH,P,-aaa,-aav]
 have:i=4:=an
 subst this;have y:((6:Int)<=(b.length:Int))=True:=eq_true an;have xc:c.take (b.length-6)=c:=aay an
 have H:aE .i64 (n:Int) (m:Int)=((n+m:Nat):Int):=by rw[ey]<;>omega
 have l4:4<b.length:=an
 have l5:5<b.length:=an
 by_cases Fj:c.length<n+m
 ·have vd:R=none:=by rw[o,if_pos Fj]
  have T:((c.length:Int)<((n+m:Nat):Int))=True:=eq_true an;have k:E (.a_ [.agg [.vs [] .no,.vs [] .no,.int .u32 0],.vs [] .no,.bool false]):=(z _).2 ⟨⟨[],[],0⟩,[],by rw[vd];rfl,by rw[vd];intro _ _ h;cases h⟩;simp(disch:=omega)[Kb,f4,f5,e4,e5,N,O,y,AH,x8,t,xc,H,T,-aaa,-aav];exact k
 rw[if_neg Fj] at o;have T:((c.length:Int)<((n+m:Nat):Int))=False:=eq_false an;obtain⟨x1,p1,q1⟩:=zrv (G:=G) (c.take n) (fun x U=>Z x (aap U)) (by rw[aaq];omega);obtain⟨x2,p2,q2⟩:=zrv (G:=G) ((c.drop n).take m) (fun x U=>Z x (aau (aap U))) (by rw[aaq,aaD];omega);obtain⟨e,Ft⟩:∃ D,D=pq (c.take n):=⟨_,rfl⟩;obtain⟨p,MT⟩:∃ D,D=pq ((c.drop n).take m):=⟨_,rfl⟩;rw[<-Ft] at p1 q1 o;rw[<-MT] at p2 q2 o
 have r0:((0:Int)<=(n:Int))=True:=eq_true an;have r1:((n:Int)<=(c.length:Int))=True:=eq_true an;have r2:((n:Int)<=((n+m:Nat):Int))=True:=eq_true an;have r3:(((n+m:Nat):Int)<=(c.length:Int))=True:=eq_true an
 have r4:n+m-n=m:=an
 have r5:(c.drop (n+m)).take (c.length-(n+m))=c.drop (n+m):=aay (by rw[aaD];omega)
 have Aq:R.isSome=(e.isSome&&p.isSome):=by rw[o];cases e<;>cases p<;>rfl
 have k:E (.a_ [.agg [.vs (IL (e.getD [])) .no,.vs (IL (p.getD [])) .no,.int .u32 K],.vs (ak .u8 (c.drop (n+m))) .no,.bool (e.isSome&&p.isSome)]):=by
  refine(z _).2 ⟨⟨e.getD [],p.getD [],K⟩,c.drop (n+m),by rw[Aq];rfl,?_⟩;intro r' j h;rw[o] at h
  cases a:e with
  | none=>rw[a] at h;cases h
  | some f =>
   cases A:p with
   | none=>rw[a,A] at h;cases h
   | some g=>rw[a,A] at h;cases h;exact⟨rfl,rfl⟩
 simp only[FL] at p1 p2;simp(disch:=omega)[Kb,f4,f5,e4,e5,N,O,y,AH,x8,t,xc,H,T,r0,r1,-aaa,-aav];refine ax p1 ?_;simp(disch:=omega)[AH,x8,H,r0,r2,r3,r4,-aaa,-aav];refine ax p2 ?_;simp(disch:=omega)[AH,x8,H,r3,r5,q1,-aaa,-aav]
 cases a:e.isSome<;>rw[a] at k<;>simp[q2]<;>simpa using k
def GH:Nat->List Nat->List TR->Option (List TR×List Nat)
 | 0,b,t=>some (t,b)
 | n+1,b,t=>match uw b with
  | none=>none
  | some (r,q)=>GH n q (t++[r])
def B5:List Nat:=[72,82,84,49]
def vR(b:List Nat):Option (List TR) :=
 if(oJ b).2≠0\/(oJ b).1.length<=4\/(oJ b).1.take 4≠B5 then none
 else match GH ((oJ b).1.getD 4 0) ((oJ b).1.drop 5) [] with
  | some (t,q)=>if q=[]/\ef t=true then some t else none
  | none=>none
def zBA:∀(n:Nat) {b q:List Nat} {t u:List TR},(∀ x∈b,x<256)->(∀ r∈t,r.ok)->GH n b t=some (u,q)->∀ r∈u,r.ok
 | 0,b,q,t,u,d,c,h=>by cases h;exact c
 | n+1,b,q,t,u,d,c,h=>by
  unfold GH at h
  cases a:uw b with
  | none=>rw[a] at h;cases h
  | some x =>
   rw[a] at h;obtain⟨e,f,_⟩:=zx1 d a
   exact zBA n f (fun r a=>by
    rcases aaG.1 a with a|a
    ·exact c r a
    ·rw[aaT.1 a];exact e) h
def zx2{b:List Nat}(a:∀ x∈b,x<256):∀ x∈(oJ b).1,x<256:=by
 unfold oJ;split
 ·simp
 ·split
  ·exact fun x c=>a x (aap c)
  ·simp
def zDS(b:List Nat):(oJ b).1.length<=b.length:=by
 unfold oJ;split
 ·simp
 ·split
  ·rw[aaq];omega
  ·simp
def zF4{b:List Nat}{t:List TR}(a:∀ x∈b,x<256)(h:vR b=some t):ef t=true/\∀ r∈t,r.ok:=by
 unfold vR at h;split at h
 ·cases h
 ·split at h
  ·rename_i u q c;split at h
   ·rename_i d;cases h;exact⟨d.2,zBA _ (fun x e=>zx2 a x (aau e)) ir c⟩
   ·cases h
  ·cases h
def zy9[az G][ig G][ay G][aN G][ej G][cO G][bx G](b:List Nat)(P:∀ x∈b,x<256)(hl:b.length<=1000000) :
  ∃ e:Int,FP G 476 [.vs (ak .u8 b) .no] (.a_ [TF ((vR b).getD []),.int .i64 e])/\((e==0)=(vR b).isSome):=by
 obtain⟨R,a⟩:∃ R,R=vR b:=⟨_,rfl⟩;rw[<-a];obtain⟨E,J⟩:∃ E:V->Prop,∀ v,E v↔∃ e:Int,v=.a_ [TF (R.getD []),.int .i64 e]/\((e==0)=R.isSome):=⟨_,fun _=>Iff.rfl⟩
 suffices hs:∃ r,FP G 476 [.vs (ak .u8 b) .no] r/\E r by
  obtain⟨r,h1,h2⟩:=hs;obtain⟨e,rfl,h3⟩:=(J r).1 h2;exact⟨e,h1,h3⟩
 have f:R=none->∀ e:Int,(e==0)=false->E (.a_ [.vs [] .no,.int .i64 e]):=fun h e he=>(J _).2 ⟨e,by rw[h];rfl,by rw[h,he];rfl⟩;refine KO bx.afE (aab rfl) ?_;have Q:=zF3 (G:=G) b P hl;have w:=zx2 P;have jQ:=zDS b;unfold vR at a;obtain⟨c,K⟩:∃ c,c=(oJ b).1:=⟨_,rfl⟩;obtain⟨p,T⟩:∃ p,p=(oJ b).2:=⟨_,rfl⟩;rw[<-K,<-T] at Q;rw[<-K] at w jQ;rw[<-K,<-T] at a;simp;refine ax Q ?_
 by_cases U:p=0
 rotate_left
 ·have o:R=none:=by rw[a,if_pos (Or.inl U)]
  have g:((p:Int) !=0)=true:=by simp;omega
  have j:=f o p (by simp;omega);simp[g];exact j
 have g:((p:Int) !=0)=false:=by simp;omega
 by_cases h4:c.length<=4
 ·have o:R=none:=by rw[a,if_pos (Or.inr (Or.inl h4))]
  have F:((c.length:Int)<=4)=True:=eq_true an;have j:=f o 2 rfl;simp[g,F];exact j
 have F:((c.length:Int)<=4)=False:=eq_false an;have W:((4:Int)<=(c.length:Int))=True:=eq_true an;have X:=MO (c.take 4) (fun x m=>w x (aap m))
 by_cases H:c.take 4=B5
 rotate_left
 ·have o:R=none:=by rw[a,if_pos (Or.inr (Or.inr H))]
  have A:((c.take 4).map aaL==[72,82,84,49])=false:=by rw[beq_eq_false_iff_ne];exact fun h=>H (zjy (fun x m=>w x (aap m)) (by decide) h)
  rw[abK] at A;have j:=f o 2 rfl;simp[g,F,W,x8,X,A];exact j
 have A:((c.take 4).map aaL==[72,82,84,49])=true:=by rw[H];rfl
 rw[abK] at A;rw[if_neg (by simp[U,H];omega)] at a;obtain⟨n,o⟩:∃ n,c[4]?=some n:=⟨_,aae an⟩;have fn:=(aad.1 o).2;have ha:=w n (aah o);rw[aan,o,aaK] at a;have cn:fV .i64 (n:Int)=(n:Int):=IntWalk.i64_in _ ⟨an,an⟩;have h5:((5:Int)<=(c.length:Int))=True:=eq_true an
 have l4:4<c.length:=an
 have Y:(c.drop 5).take (c.length-5)=c.drop 5:=aay (by rw[aaD];omega);obtain⟨d,hd⟩:∃ d,d=c.drop 5:=⟨_,rfl⟩;rw[<-hd] at a Y
 have hf:(ak .u8 c).drop 5=ak .u8 d:=by rw[AH,<-hd]
 have L:∀ x∈d,x<256:=fun x m=>w x (aau (by rw[hd] at m;exact m))
 have nK:d.length<=1000000:=by rw[hd,aaD];omega
 simp[g,F,W,x8,X,A,fn,l4,cn,h5,AH,<-hd,Y];obtain⟨M,B⟩:∃ M,M=GH n d []:=⟨_,rfl⟩;rw[<-B] at a
 refine wu (S:=Nat×List Nat×List TR) (fun s=>n-s.1) (fun s=>[(0,.vs (ak .u8 s.2.1) .no),(5,.vs (TL s.2.2) (.own 0)),(33,.int .i64 n),(34,.int .i64 (s.1:Nat))]) (fun s=>[some (.zone s.2.2.length)])
  (fun s=>s.1<=n/\s.2.2.length=s.1/\(∀ x∈s.2.1,x<256)/\s.2.1.length<=1000000/\(∀ r∈s.2.2,r.ok)/\GH (n-s.1) s.2.1 s.2.2=M) (0,d,[]) ?_ ?_
 ·refine⟨⟨abc _,rfl,L,nK,ir,B.symm⟩,?_,?_⟩
  ·simp[av,TL]
  ·simp[aj]
 rintro⟨i,x,t⟩ ⟨p1,p2,p3,p4,N,l⟩;simp only at p1 p2 p3 p4 N l |-
 by_cases ai:i<n
 ·have u:((i:Int)<(n:Int))=True:=eq_true an;obtain⟨k,hk⟩:∃ k,n-i=k+1:=⟨n-i-1,an⟩;obtain⟨r,q,C,Z⟩:=zBz (G:=G) x p3 p4;rw[hk] at l;unfold GH at l;simp only[TV,TR.cs] at C
  cases O:uw x with
  | none =>
   rw[O] at l C;simp only at l;rw[<-l] at a;have j:=f a 2 rfl;simp[u];refine ax C ?_;simp
   exact j
  | some y =>
   rw[O] at l C Z;obtain⟨y1,y2⟩:=y;obtain⟨e1,e2⟩:=Z y1 y2 rfl;subst e1;subst e2;obtain⟨o1,o2,o3⟩:=zx1 p3 O;simp only at l;have jI:((t.length+1)*56<=140737488355328)=True:=eq_true an;have dD:=PC t;have eE:TL t++[r.cs]=TL (t++[r]):=TY t r
   have a1:aE .i64 (i:Int) 1=((i+1:Nat):Int):=by rw[ey]<;>omega
   simp only[TR.cs] at eE;simp[u];refine ax C ?_;simp[jI,dD,eE,a1,-aaa];refine⟨(i+1,q,t++[r]),by simp only;omega,⟨by simp only;omega,by simp;omega,o2,by simp only;omega,?_,by simp only[show n-(i+1)=k by omega];exact l⟩,?_,?_⟩
   ·intro z hz
    rcases aaG.1 hz with hz|hz
    ·exact N z hz
    ·rw[aaT.1 hz];exact o1
   ·simp[av]
   ·simp[aj,aw.cl]
 ·have iH:i=n:=an
  subst iH;have u:((i:Int)<(i:Int))=False:=eq_false an;rw[abQ] at l;rw[<-l] at a;simp only[GH] at a;have D:=MW (G:=G) t an N;simp only[TF] at D
  by_cases m:x=[]
  ·subst m
   cases I:ef t with
   | true =>
    rw[I] at D;simp only[I,and_self,if_true] at a;have j:E (.a_ [.vs (TL t) .no,.int .i64 0]):=(J _).2 ⟨0,by rw[a];rfl,by rw[a];rfl⟩;simp[u,ak];refine ax D ?_;simp
    exact j
   | false =>
    rw[I] at D;simp only[I,and_false,if_false,Bool.false_eq_true] at a;have j:=f a 2 rfl;simp[u,ak];refine ax D ?_;simp;exact j
  ·have hp:=aa2.2 m;have iD:((0:Int)<(x.length:Int))=True:=eq_true an;have XG:0<x.length:=hp;simp only[m,false_and,if_false] at a;have j:=f a 2 rfl;simp[u,XG];exact j
def zEB(t:List TR):List Nat:=B5++[t.length%256]++t.flatMap TR.sN
def EY(t:List TR):List Nat:=GF (zEB t)
def zvY(r:TR):r.sN.length=6+8*r.fr.length+8*r.to.length:=by simp only[TR.sN,aaz,Ct];simp[gn]
def zoy:∀{l:List Nat},(∀ b∈l,b<256)->qW (l.map aaL)=ak .u8 l
 | [],_=>rfl
 | b::l,h=>by
  have a:=zoy (l:=l) fun c d=>h c (by simp[d]);have f:=h b ir
  have e:(aaL b).toNat=b:=by rw[abt];omega
  simp only[qW,ak,aa0,e] at a |-;rw[a]
def zza[az G][ay G][aN G][ej G][cO G][bx G](t:List TR)(g:ef t=true)(o:∀ r∈t,r.ok):FP G 477 [TF t] (.a_ [.vs (ak .u8 (EY t)) .no,.int .i64 0]):=by
 refine bD bx.afF (aab rfl) ?_;have A:t.length<=64:=(MV g).2;have k:=MW (G:=G) t an o;rw[g] at k
 have p:∀ r∈t,r.may=true:=fun r b=>by
  simp only[ef,aal] at g;exact aaJ.1 g.1.1 r b
 obtain⟨T,c⟩:∃ T:Nat->List Nat,∀ j,T j=B5++[t.length%256]++(t.take j).flatMap TR.sN:=⟨_,fun _=>rfl⟩
 have q:T 0=[72,82,84,49,t.length%256]:=by rw[c];rfl
 have B:zEB t=T t.length:=by rw[c,aaA];rfl
 have s:∀ i r,t[i]?=some r->T (i+1)=T i++r.sN:=fun i r h=>by rw[c,c,aat,h,abh,List.flatMap_append];simp
 have u:∀ r∈t,r.sN.length<=600:=fun r b=>by
  have:=Jr (p r b);rw[zvY];omega
 have v:∀ j,j<=t.length->(T j).length<=5+600*j:=by
  intro j
  induction j with
  | zero=>intro _;rw[q];simp
  | succ j C =>
   intro R;have d:t[j]?=some t[j]:=aae an;have:=C an;have:=u t[j] (aaV _);rw[s j _ d,aaz];omega
 have l:∀ j,∀ x∈T j,x<256:=fun j x a=>by
  rw[c] at a
  rcases aaG.1 a with a|a
  ·rcases aaG.1 a with a|a
   ·have:∀ y∈B5,y<256:=by decide
    exact this x a
   ·rw[aaT.1 a];exact abk _ (by decide)
  ·simp only[List.mem_flatMap] at a;obtain⟨r,_,b⟩:=a;exact Wb r x b
 have D:=zx0 (G:=G) (T t.length) (l _) (by have:=v t.length (aaF _);omega);rw[EY,B];have E:=J8 t.length;simp only[TF] at k;have F:pE 1 4 [V.int .u8 72,.int .u8 82,.int .u8 84,.int .u8 49]=[[V.int .u8 72],[V.int .u8 82],[V.int .u8 84],[V.int .u8 49]]:=rfl;simp[TF];refine ax k ?_;simp[E,F,-aaB];refine aQ t.length (fun i=>[(4,.vs (ak .u8 (T i)) (.own 1)),(17,.vs (TL t) .no),(18,.int .i64 t.length),(19,.int .i64 i)]) (fun i=>[some (.zone 1),some (.zone (T i).length)]) (fun _=>True) ?_ ?_
 ·simp[av,aj,aw.cl,V.cl,Tk.cl,q,ak]
 intro i hi _
 rcases aam hi with H|w
 ·subst H;simp;refine ax D ?_;simp
 ·obtain⟨r,b⟩:∃ r,t[i]?=some r:=⟨_,aae w⟩;have m:=aah b;have d:=Hs b;have I:=(aad.1 d).2;have J:((i:Int)<(t.length:Int))=True:=eq_true an;have n:=(MQ (G:=G) r (o r m) (p r m) [] Wf).fp;rw[zzW] at n
  have K:aE .i64 (i:Int) 1=((i+1:Nat):Int):=by rw[ey]<;>omega
  have e:=s i r b;have S:=v i hi;have U:=u r m;have L:((T i).length+r.sN.length<=140737488355328)=True:=eq_true an;have M:=zoy (Wb r)
  have N:ak .u8 r.sN≠[]:=by intro h;have:=congrArg abZ h;rw[Qa,zvY] at this;simp at this
  have O:ak .u8 (T i)++ak .u8 r.sN=ak .u8 (T (i+1)):=by rw[e];simp[ak]
  have P:(∀ f∈ak .u8 r.sN,f.length=1)=True:=by simp only[eq_iff_iff,iff_true];intro f z;simp only[ak,aaI] at z;obtain⟨_,_,rfl⟩:=z;rfl
  have Q:(T (i+1)).length=(T i).length+r.sN.length:=by rw[e,aaz]
  simp only[TV,TR.cs] at n d I;simp[J,d];refine ax n ?_;simp[M,N,P,O,Q,L,K,w,av,aj,aw.cl,V.cl,Tk.cl,-aaa]
def Jt(f:List af)(a n:Nat):Nat:=gW (nd (f.drop (a+n))) 18
def wD(f:List af)(a n:Nat):List af:=(f.drop a).take n
noncomputable def yI(w:List af)(t:List TR)(live:Nat)(tries:Int):Option (List af) :=
 match AD t w live with
 | some x=>if aW x=true/\(eo w x live).1=0 then some x else gZ w live tries
 | none=>gZ w live tries
noncomputable def sG(f:List af)(t:List TR)(tries:Int)(p:Pc):Option (List af×List TR) :=
 (yI (wD f p.1 p.2) t (Jt f p.1 p.2) tries).map fun x=>(eU f p.1 p.2 x,(qw t ⟨wD f p.1 p.2,x,Jt f p.1 p.2⟩).1)
noncomputable def xI(f:List af)(t:List TR)(tries most:Int):Option (List af×List TR):=(rows f most f.length).findSome? (sG f t tries)
noncomputable def uW(tries most:Int):Nat->List af->List TR->(List af×List TR)×Nat×Bool
 | 0,f,t=>((f,t),0,false)
 | k+1,f,t=>match xI f t tries most with
  | none=>((f,t),0,true)
  | some q=>((uW tries most k q.1 q.2).1,(uW tries most k q.1 q.2).2.1+1,(uW tries most k q.1 q.2).2.2)
def zBB{t:List TR}{w x:List af}{live:Nat}(h:AD t w live=some x):∃ r∈t,r.fr=w/\r.to=x/\r.may=true:=by
 unfold AD at h;split at h
 ·rename_i a;rw[aa7] at h;obtain⟨r,b,e⟩:=h;have c:=List.find?_some b;have d:=List.mem_of_find?_eq_some b;simp only[aal,decide_eq_true_eq] at c;simp only[ef,aal] at a;exact⟨r,d,c.1,e,aaJ.1 a.1.1 r d⟩
 ·cases h
def zqn{w x:List af}{t:List TR}{live:Nat}{tries:Int}(i:∀ y∈w,y.k<4294967296)(a:aW w=true)(j:∀ r∈t,∀ y∈r.to,y.k<4294967296)(h:yI w t live tries=some x) :
  aW x=true/\x.length<w.length/\(eo w x live).1=0/\∀ y∈x,y.k<4294967296:=by
 have l:w.length<=32:=by simp only[aW,aal,decide_eq_true_eq] at a;exact a.1
 have d:gZ w live tries=some x->aW x=true/\x.length<w.length/\(eo w x live).1=0/\∀ y∈x,y.k<4294967296:=fun h=>by
  obtain⟨k,_,m,n,_⟩:=zB4 h;have b:=aah m;exact⟨zB5 zwi b l,Q8 b,n,fun y c=>zqB i a y (Q9 b y c)⟩
 unfold yI at h;split at h
 ·rename_i y c;split at h
  ·rename_i e;cases h;obtain⟨r,o,p,f,g⟩:=zBB c;simp only[TR.may,aal,decide_eq_true_eq] at g;exact⟨e.1,by rw[<-p,<-f];exact g.1.2,e.2,by rw[<-f];exact j r o⟩
  ·exact d h
 ·exact d h
def l7(t:List TR):Prop:=∀ r∈t,(∀ y∈r.fr,y.k<4294967296)/\(∀ y∈r.to,y.k<4294967296)/\r.lv<4294967296
structure abV (f:List af) (t:List TR) (f':List af) (t':List TR):Prop where
 sound:dB f'=true
 k:∀ y∈f',y.k<4294967296
 len:f'.length<f.length
 run:∀ d:Da,d.ok->(run d f' rF).1=(run d f rF).1/\((∀ y∈f,y.op≠60)->(run d f' rF).2<=(run d f rF).2)
 abW:(∀ y∈f,y.op≠60)->∀ y∈f',y.op≠60
 all:p9 f->p9 f'
 tk:l7 t'
 dT:ef t=true->ef t'=true/\t.length<=t'.length/\t'.length<=t.length+1/\∀ r∈t',r∈t\/aW r.fr=true/\aW r.to=true/\(eo r.fr r.to r.lv).1=0
def zx3{t:List TR}{r:TR}(b:l7 t)(c:∀ y∈r.fr,y.k<4294967296)(d:∀ y∈r.to,y.k<4294967296)(e:r.lv<4294967296):l7 (qw t r).1:=by
 unfold qw;split
 ·split
  ·exact b
  ·split
   ·exact b
   ·intro x a;rw[aaG,aaE] at a
    rcases a with a|rfl|a
    ·exact b x (aap a)
    ·exact⟨c,d,e⟩
    ·exact b x (aau a)
 ·exact b
structure abX (f:List af) (t:List TR) (f':List af) (t':List TR):Prop where
 sound:dB f'=true
 k:∀ y∈f',y.k<4294967296
 len:f'.length<f.length
 tk:l7 t'
 dT:ef t=true->ef t'=true
def zvZ{f c:List af}{t d:List TR}{tries most:Int}(s:dB f=true)(g:∀ y∈f,y.k<4294967296)(i:l7 t)(h:xI f t tries most=some (c,d)):abX f t c d:=by
 obtain⟨p,u,b⟩:=aa_ h;obtain⟨C,j,D,E⟩:=QW u;simp only[qR,Au,uH,As,aal,decide_eq_true_eq] at j;obtain⟨⟨_,_⟩,_,⟨F,G,H,I⟩,a⟩:=j
 have a:r7 f p.1 p.2=true:=by simpa using a
 have l:p.1+p.2<=f.length:=an
 unfold sG at b;rw[aa7] at b;obtain⟨x,v,e⟩:=b;cases e
 have J:(wD f p.1 p.2).length=p.2:=by rw[wD,aaq,aaD];omega
 have m:∀ y∈wD f p.1 p.2,y.k<4294967296:=Mu g _ _
 have n:aW (wD f p.1 p.2)=true:=by simp only[r7,aal] at a;exact a.1
 have w:Jt f p.1 p.2<262144:=wv _ 18;obtain⟨o,K,L,q⟩:=zqn m n (fun r z=>(i r z).2.1) v
 have A:x.length<=p.2:=an
 refine⟨zsJ s a an l o A,zEb g q,by rw[QY l];omega,zx3 i m q (by simp only;omega),fun B=>?_⟩
 exact(zuz B (by
  simp only[TR.may,n,o,abq,aal,decide_eq_true_eq]
  exact⟨an,w⟩)).1
def zDT{f H:List af}{t I:List TR}{tries most:Int}(o:dB f=true)(A:∀ y∈f,y.k<4294967296)(J:l7 t)(h:xI f t tries most=some (H,I)):abV f t H I:=by
 obtain⟨p,N,B⟩:=aa_ h;obtain⟨CK,K,h2,zI⟩:=QW N;simp only[qR,Au,uH,As,aal,decide_eq_true_eq] at K;obtain⟨⟨_,_⟩,_,⟨i1,i2,i3,i4⟩,g⟩:=K
 have g:r7 f p.1 p.2=true:=by simpa using g
 have u:0<p.2:=an
 have m:p.1+p.2<=f.length:=an
 have xX:=zsI o g u m;unfold sG at B;rw[aa7] at B;obtain⟨x,L,e⟩:=B;cases e;obtain⟨P,j⟩:∃ P,P=wD f p.1 p.2:=⟨_,rfl⟩
 have O:P.length=p.2:=by rw[j,wD,aaq,aaD];omega
 have v:∀ y∈P,y.k<4294967296:=by rw[j];exact Mu A _ _
 have l:aW P=true:=by rw[j];simp only[r7,aal] at g;exact g.1
 obtain⟨live,C⟩:∃ live,live=Jt f p.1 p.2:=⟨_,rfl⟩
 have Q:live<262144:=by rw[C];exact wv _ 18
 rw[<-j,<-C] at L |-;obtain⟨b,w2,c,n⟩:=zqn v l (fun r D=>(J r D).2.1) L
 have E:x.length<=p.2:=an
 have R:∀(d:Da),d.ok->∀ s:St,s.ok->uX P x live s d=false:=fun d hd s S=>by
  rcases l9 (live:=live) l b with⟨_,h⟩|⟨r,h,_⟩|⟨h,_⟩
  ·exact zzA v n S hd l b h
  ·rw[h] at c;cases c
  ·rw[h] at c;cases c
 have T:j4 P P.length=j4 x x.length:=by
  rcases l9 (live:=live) l b with⟨_,h⟩|⟨r,h,_⟩|⟨h,_⟩
  ·exact zzS v n l b h
  ·rw[h] at c;cases c
  ·rw[h] at c;cases c
 have M:∀ y∈P,y∈f:=fun y a=>by rw[j] at a;exact aau (aap a)
 have U:(⟨P,x,live⟩:TR).may=true:=by simp only[TR.may,l,b,abq,aal,decide_eq_true_eq];exact⟨an,Q⟩
 refine⟨zsJ o g u m b E,zEb A n,by rw[QY m];omega,fun d hd=>?_,fun hd=>?_,fun V=>zCa o g u m b E V,zx3 J v n (show live<4294967296 by omega),fun W=>?_⟩
 ·have:=zqy (live:=live) o g u m b E A n hd (fun q X F=>by
   rw[yL,zFm,C,Jt,Bv];simp[X,F]) (by show ∀ s:St,s.ok->uX (wD f p.1 p.2) x live s d=false;rw[<-j];exact R d hd) f.length 0 rF an an (.inl (abc _)) zvB
  rw[if_pos (abc _),abb,abb] at this;refine⟨this.1,fun F=>?_⟩
  rcases this.2 with h|h
  ·exact h
  ·exfalso;have z:=(V6 (w:=P)).2 fun y a=>F y (M y a);rw[O] at z;change 0<j4 (wD f p.1 p.2) p.2 at h;rw[<-j] at h;omega
 ·have z:=(V6 (w:=P)).2 fun y a=>hd y (M y a);rw[T] at z;have G:=V6.1 z;intro y a;simp only[eU,aaG] at a
  rcases a with(a|a)|a
  ·simp only[pre,aaI,abJ] at a;obtain⟨i,hi,rfl⟩:=a;rw[JY];rw[List.getD,aae (show i<f.length by omega)];exact hd _ (aaV _)
  ·exact G y a
  ·exact hd y (aau a)
 ·obtain⟨Y,Z,l3,l4⟩:=zuz W U;refine⟨Y,Z,l3,fun r D=>?_⟩
  rcases l4 r D with h|rfl
  ·exact .inl h
  ·exact .inr ⟨l,b,c⟩
structure GI (f:List af) (t:List TR) (q:(List af×List TR)×Nat×Bool):Prop where
 sound:dB q.1.1=true
 k:∀ y∈q.1.1,y.k<4294967296
 len:q.1.1.length<=f.length
 run:∀ d:Da,d.ok->(run d q.1.1 rF).1=(run d f rF).1/\((∀ y∈f,y.op≠60)->(run d q.1.1 rF).2<=(run d f rF).2)
 all:p9 f->p9 q.1.1
 tk:l7 q.1.2
 dT:ef t=true->ef q.1.2=true/\t.length<=q.1.2.length/\q.1.2.length<=t.length+q.2.1/\∀ r∈q.1.2,r∈t\/aW r.fr=true/\aW r.to=true/\(eo r.fr r.to r.lv).1=0
def ztR{tries most:Int}:∀(n:Nat) {f:List af} {t:List TR},dB f=true->(∀ y∈f,y.k<4294967296)->l7 t->GI f t (uW tries most n f t)
 | 0,f,t,c,e,g=>⟨c,e,aaF _,fun d _=>⟨rfl,fun _=>aaF _⟩,id,g,fun h=>⟨h,aaF _,by simp[uW],fun r a=>.inl a⟩⟩
 | n+1,f,t,c,e,g=>by
  unfold uW
  cases a:xI f t tries most with
  | none=>exact⟨c,e,aaF _,fun d _=>⟨rfl,fun _=>aaF _⟩,id,g,fun h=>⟨h,aaF _,ir,fun r a=>.inl a⟩⟩
  | some q =>
   have k:=zDT c e g a;have b:=ztR (tries:=tries) (most:=most) n k.sound k.k k.tk;simp only[];refine⟨b.sound,b.k,by have:=b.len;have:=k.len;simp only;omega,fun d hd=>?_,fun p=>b.all (k.all p),b.tk,fun s=>?_⟩
   ·obtain⟨i,l⟩:=b.run d hd;obtain⟨j,m⟩:=k.run d hd;exact⟨i.trans j,fun o=>aaw (l (k.abW o)) (m o)⟩
   ·obtain⟨j,m,w,u⟩:=k.dT s;obtain⟨i,l,x,v⟩:=b.dT j;refine⟨i,by simp only;omega,by simp only;omega,fun r a=>?_⟩
    rcases v r a with h|h
    ·exact u r h
    ·exact .inr h
def qE(b lo hi:Int):Int:=max lo (min b hi)
def zsx[fi G](b lo hi:Int):FP G 360 [.int .i64 b,.int .i64 lo,.int .i64 hi] (.int .i64 (qE b lo hi)):=by refine bD fi.aeF (aab rfl) ?_;simp[qE];omega
def zDU[fi G](a b c:Int):FP G 361 [.agg [.int .i64 a,.int .i64 b,.int .i64 c]] (.agg [.int .i64 (qE a 0 1000),.int .i64 (qE b 0 1000),.int .i64 (qE c 0 32)]):=by refine bD fi.aeG (aab rfl) ?_;simp;refine ax (zsx _ _ _) ?_;simp;refine ax (zsx _ _ _) ?_;simp;refine ax (zsx _ _ _) ?_;simp
def jN(t:List TR):List TR:=if ef t=true then t else []
def zF5[az G][ay G][aN G][ej G][cO G][fi G](t:List TR)(c:t.length<=1000000)(d:∀ r∈t,r.ok):FP G 362 [TF t] (TF (jN t)):=by
 refine bD fi.aeH (aab rfl) ?_;have a:=MW (G:=G) t c d;simp only[TF] at a;simp[TF];refine ax a ?_
 cases b:ef t with
 | false=>simp[jN,b,TL]
 | true=>simp[jN,b]
def zzb[dR G][dx G][az G][ay G][bQ G][dw G][cT G][aN G][cU G][cV G][bW G][cd G][bS G][ar G][Q:dS G][cu G][aK G][cZ G][bX G][cN G][eS G][fT G][fE G][fF G][iJ G][ej G][cO G][fi G]
  (w:List af) (t:List TR) (live:Nat) (tries:Int) (g:aW w=true) (v:∀ x∈w,x.k<4294967296) (J:t.length<=1000000) (y:∀ r∈t,r.ok) (i:live<4294967296) :
  FP G 363 [FL w,TF t,.int .u32 live,.int .i64 tries] (pk (yI w t live tries)):=by
 refine bD fi.aeI (aab rfl) ?_;have z:=zDP (G:=G) t w live J y i;have K:=(Kc g).1;have a:w.length<=maxLen:=aaw K (by decide);have j:=zEQ (G:=G) w live tries a v g i;simp only[FL,TF] at z j;simp[FL,TF];refine ax z ?_
 cases d:AD t w live with
 | none =>
  have b:yI w t live tries=gZ w live tries:=by rw[yI,d]
  rw[b];simp[pk];refine ax j ?_
  cases gZ w live tries<;>simp[pk]
 | some x =>
  obtain⟨r,L,R,C,l⟩:=zBB d;have D:=(y r L).2.2.2.1;have E:=(Jr l).2;rw[C] at D E;have F:=zsG (G:=G) w x live a (aaw E (by decide)) v D i
  have c:aW x=true:=by simp only[TR.may,aal] at l;rw[<-C];exact l.1.1.2
  simp only[FL,g,c,Bool.and_self,if_true] at F;simp[pk];refine ax F ?_;obtain⟨A,H⟩:∃ A,A=dN 0 none:=⟨_,rfl⟩
  have M:A.length=28:=by rw[H];rfl
  obtain⟨e,B,m,N,O,P,I⟩:∃(e:Int) (B:List V),(eo w x live).1=e/\B=dN (eo w x live).1 (eo w x live).2/\(∀ n,aX n B=B)/\B.length=28/\B.take 1=[.int .i64 (eo w x live).1] :=
   ⟨_,_,rfl,rfl,fun n=>QD _ _ n,zuo w x live,zwU _ _⟩
  have o:V.int .i64 0::(au .u32 (aP 20)++au .u64 (aP 7))=A:=by rw[H];rfl
  have p:B.take 28=B:=aay an;have q:B.drop 28=[]:=aaQ an;have s:A.drop 28=[]:=aaQ an;rw[<-N];rw[m] at I;simp[o,s,p,q,M,P,I,O]
  by_cases f:e=0
  ·have b:yI w t live tries=some x:=by rw[yI,d];simp only[];rw[if_pos ⟨c,by rw[m,f]⟩]
   simp[f,b,pk]
  ·have b:yI w t live tries=gZ w live tries:=by rw[yI,d];simp only[];rw[if_neg (by rintro⟨_,h⟩;rw[m] at h;exact f h)]
   have u:(e==0)=false:=aO f;rw[b];simp[u];refine ax j ?_
   cases gZ w live tries<;>simp[pk]
def oK(f:List af)(t:List TR)(n:Nat)(d:Bool):List V:=[FL f,TF t,.int .i64 n,.bool d]
def zK(f:List af)(t:List TR):Option (List af×List TR)->V
 | some q=>.a_ [.agg (oK q.1 q.2 1 false),.bool true]
 | none=>.a_ [.agg (oK f t 0 true),.bool false]
def T3(t:List TR):Prop:=t.length<=1000000/\∀ r∈t,r.ok
def zzc[dR G][dx G][az G][ay G][bQ G][dw G][cT G][aN G][cU G][cV G][bW G][cd G][bS G][ar G][Cc:dS G][cu G][aK G][cZ G][bX G][cN G][eS G][fT G][fE G][fF G][iJ G][dg G][fG G][eI G][ej G][cO G][fi G]
  (f:List af) (t:List TR) (N tries most:Int) (O:dB f=true) (u:∀ x∈f,x.k<4294967296) (g:T3 t) (hm:0<=most/\most<=32) :
  FP G 364 [FL f,TF t,.agg [.int .i64 N,.int .i64 tries,.int .i64 most]] (zK f t (xI f t tries most)):=by
 refine bD fi.aeJ (aab rfl) ?_;have z:=JU O;have Q:f.length<=maxLen:=aaw z (by decide);have A:=zzD (G:=G) f most Q u an;obtain⟨L,v⟩:∃ L,L=rows f most f.length:=⟨_,rfl⟩
 have VE:L.length<=200000:=by have:=Vr f most f.length;rw[v];omega
 rw[<-v] at A
 have R:xI f t tries most=L.findSome? (sG f t tries):=by rw[xI,v]
 simp only[FL] at A;simp[FL,TF];refine ax A ?_;simp
 refine aQ L.length (fun i=>[(0,FL f),(1,TF t),(5,.ptr 0 0),(6,.ptr 1 0),(24,.vs (v8 L) .no),(25,.int .i64 L.length),(26,.int .i64 i)])
  (fun _=>[some (.cells [.int .i64 N,.int .i64 tries,.int .i64 most]),some (.cells [.vs [] .full,.vs [] .full,.int .i64 0,.bool false])]) (fun i=>∀ j<i,∀ p,L[j]?=some p->sG f t tries p=none) ?_ ?_
 ·simp[av,aj,FL,TF]
 intro i hi B
 by_cases C:i<L.length
 ·obtain⟨p,l⟩:∃ p,p=L[i]:=⟨_,rfl⟩
  have S:L[i]?=some p:=by rw[l];exact aae C
  have Vs:p∈rows f most f.length:=by rw[<-v];exact aah S
  obtain⟨CK,D,h2,zI⟩:=QW Vs;have T:=D;simp only[qR,aal] at T;have m:=T.2;simp only[qR,Au,uH,As,aal,decide_eq_true_eq] at D;obtain⟨⟨_,_⟩,_,⟨i1,i2,i3,i4⟩,d⟩:=D
  have d:r7 f p.1 p.2=true:=by simpa using d
  obtain⟨a,n⟩:=p;simp only at CK h2 zI d i1 i2 i3 i4 m
  have qt:a+n<=f.length:=an
  obtain⟨x,U⟩:∃ x,f[a+n-1]?=some x:=⟨_,aae an⟩;have w:=zAF (G:=G) f (a+n-1) x U u O
  have n8:∀ x∈(f.drop a).take n,mK x=true:=by simp only[r7,aal] at d;exact Hg d.1
  have JI:mK x=true:=n8 x (by
   refine aah (i:=n-1) ?_;rw[abd,if_pos an,aaW,show a+(n-1)=a+n-1 by omega]
   exact U)
  have O0:aU x=[0]:=by obtain⟨h5,gY,h6,oP⟩:=MB JI;simp[aU,gL,h5,gY,h6,oP]
  rw[O0,zGo,show a+n-1+1=a+n by omega] at w;obtain⟨live,E⟩:∃ live,live=Jt f a n:=⟨_,rfl⟩
  have V:live<4294967296:=by rw[E];exact Nat.lt_of_lt_of_le (wv _ 18) (by decide)
  rw[show gW (nd (f.drop (a+n))) 18=live from E.symm] at w;obtain⟨P,e⟩:∃ P,P=wD f a n:=⟨_,rfl⟩
  have Ds:P.length=n:=by rw[e,wD,aaq,aaD];omega
  have F:∀ y∈P,y.k<4294967296:=by rw[e];exact Mu u a n
  have W:aW P=true:=by rw[e,wD];simp only[r7,aal] at d;exact d.1
  have X:=zzb (G:=G) P t live tries W F g.1 g.2 V;have e1:aE .i64 (a:Int) (n:Int)=((a+n:Nat):Int):=qM an
  have e2:c_ .i64 ((a+n:Nat):Int) 1=((a+n-1:Nat):Int):=by rw[oW]<;>omega
  have Y:((IL f).drop a).take n=IL P:=by rw[Vn,Vo,e,wD]
  have T5:((IL f).take (a+n)).drop a=IL P:=by rw[Vo,Vn,e,wD,List.drop_take];congr 2;omega
  have EZ:((IL f).drop a).take (a+n-a)=IL P:=by rw[show a+n-a=n by omega];exact Y
  have Z:L[i]=(a,n):=l.symm;have c1:((a:Int)<=((a+n:Nat):Int))=True:=eq_true an;have c2:(((a+n:Nat):Int)<=(f.length:Int))=True:=eq_true an
  have LD:sG f t tries (a,n)=(yI P t live tries).map fun x=>(eU f a n x,(qw t ⟨P,x,live⟩).1):=by rw[sG,<-e,<-E]
  simp only[FL,TF] at w X;simp(disch:=omega)[bM,aC,Z,FL,TF,e1,e2,c1,c2,EZ,-aaa];refine ax w ?_;simp(disch:=omega)[Y];refine ax X ?_
  cases H:yI P t live tries with
  | none =>
   have uD:∀ j<i+1,∀ p,L[j]?=some p->sG f t tries p=none:=fun j b p c=>by
    rcases aa3.1 b with h|rfl
    ·exact B j h p c
    ·rw[S] at c;cases c;rw[LD,H];rfl
   simp(disch:=omega)[pk,C,bH,av,aj,FL,TF,-aaa]
   exact fun j b p q c=>uD j b (p,q) c
  | some y =>
   obtain⟨w1,w2,w3,w4⟩:=zqn F W (fun r o=>(g.2 r o).2.2.2.1) H;have PK:=(Kc w1).1
   have I:QQ f a n y=true:=by simp only[QQ,m,w1,abq,decide_eq_true_eq];omega
   have PL:=zGk (G:=G) f y a n Q (aaw PK (by decide)) u w4 I;obtain⟨r,o⟩:∃ r:TR,r=⟨P,y,live⟩:=⟨_,rfl⟩
   have TZ:r.ok:=by rw[o];exact⟨aaw (show P.length<=32 by omega) (by decide),aaw PK (by decide),F,w4,V⟩
   have J:=zBx (G:=G) t r g.1 g.2 TZ
   have GY:TV r=.agg [.vs (IL P) .no,.vs (IL y) .no,.int .u32 live]:=by rw[o];rfl
   rw[GY] at J
   have K:xI f t tries most=some (eU f a n y,(qw t r).1):=by
    rw[R]
    have lS:L=L.take i++(a,n)::L.drop (i+1):=by have:=aaH C;rw[Z] at this;rw[<-this,List.take_append_drop]
    exact List.findSome?_eq_some_iff.2 ⟨L.take i,(a,n),L.drop (i+1),lS,by rw[LD,H,o];rfl,fun p c=>by
     obtain⟨j,b⟩:=aaU c;rw[abd] at b;split at b
     ·rename_i wq;exact B j wq p b
     ·cases b⟩
   rw[K];simp only[FL,TF] at PL J;simp[pk];refine ax PL ?_;simp;refine ax J ?_
   by_cases s:(qw t r).2=0
   ·have M:((qw t r).2==0)=true:=by simp[s]
    simp[M,zK,oK,FL,TF]
   ·have M:((qw t r).2==0)=false:=aO s
    have vg:(qw t r).1=t:=by
     unfold qw at s |-;split
     ·split
      ·rfl
      ·split
       ·rfl
       ·rename_i g1 g2 g3;rw[if_pos g1,if_neg g2,if_neg g3] at s;exact absurd rfl s
     ·rfl
    simp[M,vg,zK,oK,FL,TF]
 ·have aB:i=L.length:=an
  subst aB
  have BM:xI f t tries most=none:=by rw[R,List.findSome?_eq_none_iff];intro p c;obtain⟨j,b⟩:=aaU c;exact B j (aad.1 b).1 p b
  rw[BM];simp[zK,oK,FL,TF]
def ux(f:List af)(a:Nat)(m:List Bool):List Bool :=
 if h:a<f.length then
  if m.getD a false=true then m
  else if gL (f[a]'h).op=true then m.set a true
  else if(f[a]'h).op=5 then ux f (a+1+(f[a]'h).k) (m.set a true)
  else if bf (f[a]'h).op=true then ux f (a+1+(f[a]'h).jf.toNat) (ux f (a+1+(f[a]'h).jt.toNat) (m.set a true))
  else ux f (a+1) (m.set a true)
 else m
termination_by f.length-a
def nR(m:List Bool)(i:Nat):Prop:=m[i]?=some true
structure Mt (f:List af) (a:Nat) (m m':List Bool):Prop where
 len:m'.length=m.length
 mono:∀ i,nR m i->nR m' i
 at':nR m' a
 cls:∀ i x,nR m' i->¬nR m i->f[i]?=some x->∀ o∈aU x,nR m' (i+1+o)
 min:∀ i,nR m' i->¬nR m i->i=a\/∃ j x o,f[j]?=some x/\nR m' j/\o∈aU x/\j+1+o=i
def LG{m:List Bool}{a i:Nat}(b:a<m.length):nR (m.set a true) i↔i=a\/nR m i:=by
 unfold nR
 by_cases e:a=i
 ·subst e;rw[List.getElem?_set_self b];simp
 ·rw[List.getElem?_set_ne e];constructor
  ·exact .inr
  ·rintro(h|h)
   ·exact absurd h.symm e
   ·exact h
def Mt.refl{f:List af}{a:Nat}{m:List Bool}(h:nR m a):Mt f a m m:=⟨rfl,fun _ h=>h,h,fun i x b c=>absurd b c,fun i b c=>absurd b c⟩
def Mt.one{f:List af}{a:Nat}{m b:List Bool}{x:af}(d:a<m.length)(n:f[a]?=some x)(p:b.length=m.length)(c:∀ i,nR (m.set a true) i->nR b i)
  (nx:∀ o∈aU x,nR b (a+1+o)) (g:∀ i y,nR b i->¬nR (m.set a true) i->f[i]?=some y->∀ o∈aU y,nR b (i+1+o))
  (min:∀ i,nR b i->¬nR (m.set a true) i->∃ j y o,f[j]?=some y/\nR b j/\o∈aU y/\j+1+o=i):Mt f a m b:=by
 have q:nR b a:=c a ((LG d).2 (.inl rfl));refine⟨p,fun i hi=>c i ((LG d).2 (.inr hi)),q,fun i y hi k l=>?_,fun i hi k=>?_⟩
 ·by_cases e:i=a
  ·subst e;rw[n] at l;cases l;exact nx
  ·exact g i y hi (fun h=>((LG d).1 h).elim e k) l
 ·by_cases e:i=a
  ·exact .inl e
  ·exact .inr (min i hi fun h=>((LG d).1 h).elim e k)
def PM{f:List af}(z:dB f=true):∀(n a:Nat) (m:List Bool),f.length-a<=n->a<f.length->m.length=f.length->Mt f a m (ux f a m)
 | 0,a,m,d,c,_=>by omega
 | n+1,a,m,d,c,I=>by
  have l:f[a]?=some f[a]:=aae c;have r:=fun o h=>E8 (o:=o) z l h;obtain⟨x,D⟩:∃ x,x=f[a]:=⟨_,rfl⟩;rw[<-D] at l r;rw[ux,dif_pos c,<-D]
  by_cases p:m.getD a false=true
  ·rw[if_pos p];refine .refl ?_;rw[aan] at p;unfold nR
   cases E:m[a]? with
   | none=>rw[E] at p;cases p
   | some b=>rw[E] at p;simp at p;rw[p]
  rw[if_neg p]
  have t:a<m.length:=an
  have C:(m.set a true).length=f.length:=by rw[abE,I]
  by_cases A:gL x.op=true
  ·rw[if_pos A];refine Mt.one t l ir (fun _ h=>h) (fun o h=>?_) (fun i y d c=>absurd d c) (fun i d c=>absurd d c);simp[aU,A] at h
  rw[if_neg A]
  have F:gL x.op=false:=by simpa using A
  have u:∀ o,aU x=[o]->Mt f a m (ux f (a+1+o) (m.set a true)):=fun o e=>by
   have J:=r o (by rw[e];simp);have k:=PM z n (a+1+o) (m.set a true) an J C;refine Mt.one t l (by rw[k.len];simp) k.mono (fun q h=>?_) k.cls (fun i d c=>?_)
   ·rw[e,aaT] at h;subst h;exact k.at'
   ·rcases k.min i d c with rfl|h
    ·exact⟨a,x,o,l,k.mono a ((LG t).2 (.inl rfl)),by rw[e];simp,rfl⟩
    ·exact h
  by_cases v:x.op=5
  ·rw[if_pos v]
   have K:gL (5:Int)=false:=by decide
   exact u x.k (by simp[aU,v,K])
  rw[if_neg v]
  by_cases B:bf x.op=true
  ·rw[if_pos B]
   have w:aU x=[x.jt.toNat,x.jf.toNat]:=by simp[aU,F,v,B]
   have s:=PM z n (a+1+x.jt.toNat) (m.set a true) an (r _ (by rw[w];simp)) C;have g:=PM z n (a+1+x.jf.toNat) (ux f (a+1+x.jt.toNat) (m.set a true)) an (r _ (by rw[w];simp)) (by rw[s.len,C]);refine Mt.one t l (by rw[g.len,s.len];simp) (fun i h=>g.mono i (s.mono i h)) (fun q h=>?_) (fun i y d c G o r=>?_) (fun i d c=>?_)
   ·rw[w] at h;simp only[aaE,aaZ,or_false] at h
    rcases h with rfl|rfl
    ·exact g.mono _ s.at'
    ·exact g.at'
   ·by_cases hi:nR (ux f (a+1+x.jt.toNat) (m.set a true)) i
    ·exact g.mono _ (s.cls i y hi c G o r)
    ·exact g.cls i y d hi G o r
   ·have H:nR (ux f (a+1+x.jf.toNat) (ux f (a+1+x.jt.toNat) (m.set a true))) a:=g.mono _ (s.mono a ((LG t).2 (.inl rfl)))
    by_cases hi:nR (ux f (a+1+x.jt.toNat) (m.set a true)) i
    ·rcases s.min i hi c with rfl|⟨j,y,o,L,M,N,O⟩
     ·exact⟨a,x,_,l,H,by rw[w];simp,rfl⟩
     ·exact⟨j,y,o,L,g.mono _ M,N,O⟩
    ·rcases g.min i d hi with rfl|h
     ·exact⟨a,x,_,l,H,by rw[w];simp,rfl⟩
     ·exact h
  ·rw[if_neg B];have:=u 0 (by simp[aU,F,v,B]);simpa using this
def pv(f:List af):List Bool:=ux f 0 (aa5 f.length false)
def zx4:∀{f:List af} {m:List Bool},f.length=m.length->(∀ i x,nR m i->f[i]?=some x->∀ o∈aU x,nR m (i+1+o))->lH f m
 | [],[],_,_=>trivial
 | [],_::_,h,_=>by simp at h
 | _::_,[],h,_=>by simp at h
 | x::f,b::m,h,c=>by
  refine⟨fun d o a=>?_,zx4 (by simpa using h) fun i y hi e o a=>?_⟩
  ·have:=c 0 x (by rw[d];rfl) rfl o a;rw[show 0+1+o=o+1 by omega] at this;exact this
  ·have:=c (i+1) y hi (by simpa using e) o a;rw[show i+1+1+o=(i+1+o)+1 by omega] at this;exact this
def T6{f:List af}(a:dB f=true):(pv f).length=f.length/\lH f (pv f)/\(pv f)[0]?=some true/\MG f (pv f):=by
 have d:0<f.length:=by
  have:=YQ a
  cases f with
  | nil=>exact absurd rfl this
  | cons x f=>simp
 have k:=PM a f.length 0 (aa5 f.length false) an d ir
 have b:∀ i,¬nR (aa5 f.length false) i:=fun i h=>by
  have:=aah h;rw[List.mem_replicate] at this;cases this.2
 have c:(pv f).length=f.length:=by rw[pv,k.len];simp
 refine⟨c,zx4 c.symm fun i x hi e=>k.cls i x hi (b i) e,k.at',fun i hi p=>?_⟩
 rcases k.min i hi (b i) with rfl|⟨j,x,o,g,l,m,n⟩
 ·omega
 ·exact⟨j,x,o,g,l,m,n⟩
def prune(f:List af):List af:=dJ f (pv f)
def T7{f:List af}(b:dB f=true):dB (prune f)=true/\(prune f).length<=f.length/\p9 (prune f)/\∀ d s,run d (prune f) s=run d f s:=by obtain⟨e,a,c,g⟩:=T6 b;refine⟨zzK b a c,?_,zB9 a g,fun d s=>zwX d _ f _ s (aaF _) a c⟩;have:=List.countP_le_length (p:=id) (l:=pv f);rw[prune,Hn f _ e.symm];omega
def zzd{f:List af}(a:dB f=true)(b:p9 f):prune f=f:=by obtain⟨e,c,d,g⟩:=T6 a;exact zzR a c d b
def T8:∀{f:List af} {m:List Bool} {y:af},y∈dJ f m->∃ x∈f,y.op=x.op/\(y.k=x.k\/y.k<=x.k)
 | x::f,true::m,y,h=>by
  rw[dJ,aaE] at h
  rcases h with rfl|h
  ·refine⟨x,ir,Hm m x,?_⟩;unfold kK;split
   ·exact .inr (J0 _ _)
   ·split<;>exact .inl rfl
  ·obtain⟨z,a,b⟩:=T8 h
   exact⟨z,by simp[a],b⟩
 | x::f,false::m,y,h=>by
  rw[dJ] at h;obtain⟨z,a,b⟩:=T8 h
  exact⟨z,by simp[a],b⟩
 | [],_,_,h=>by simp[dJ] at h
 | _::_,[],_,h=>by simp[dJ] at h
def HM(f:List af)(m:List Bool):ae:=[some (.cells [FL f]),some (.cells (cb m)),some (.cells [.rs 1 0 f.length 1]),some (.cells [.fn 346 [.ptr 2 0,.ptr 0 0,.ptr 3 0]])]
def zF6(f:List af)(m:List Bool):im (HM f m):=by intro n a;simp only[HM,aaM,abF] at a;simp[HM,FL,aw.cl,aX,V.cl,Tk.cl,show 0<n by omega,show 1<n by omega,show 2<n by omega,show 3<n by omega]
def zx5[az G][gJ G]{f:List af}(J:dB f=true)(Z:∀ x∈f,x.k<4294967296)(hf:f.length<=maxLen):∀(n a:Nat) (m:List Bool) (r:ae),(∀ n,r.map (Option.map (aw.cl n))=r)->f.length-a<=n->a<f.length->m.length=f.length ->
  SF G 346 [.int .i64 a,.ptr 2 0,.ptr 0 0,.ptr 3 0] (HM f m++r) (.a_ []) (HM f (ux f a m)++r)
 | 0,a,m,r,_,h1,M,_=>by omega
 | n+1,a,m,r,hr,h1,M,h3=>by
  refine ke gJ.aew (aab rfl) ?_;have e:∀ m,(HM f m).length=4:=fun m=>rfl;have g0:∀ m (s:ae),(HM f m++s)[0]?=some (some (.cells [FL f])):=fun m s=>rfl;have g1:∀ m (s:ae),(HM f m++s)[1]?=some (some (.cells (cb m))):=fun m s=>rfl;have g2:∀ m (s:ae),(HM f m++s)[2]?=some (some (.cells [.rs 1 0 f.length 1])):=fun m s=>rfl;have N:∀ m (s:ae),(HM f m++s)[3]?=some (some (.cells [.fn 346 [.ptr 2 0,.ptr 0 0,.ptr 3 0]])):=fun m s=>rfl
  have s1:∀ m O (s:ae),(HM f m++s).set 1 (some (.cells (cb O)))=HM f O++s:=fun m O s=>rfl
  have kk:∀ m (s:ae),(HM f m++(r++s))[4+r.length]?=s[0]?:=fun m s=>by
   rw[<-aa6];exact nY (by simp[e])
  have k0:∀ m (s:ae) y,(HM f m++(r++s)).set (4+r.length) y=HM f m++(r++s.set 0 y):=fun m s y=>by
   rw[<-aa6,sK (by simp[e]),aa6]
  have p:∀ m (s:ae),aj (4+r.length) (HM f m++(r++s))=HM f m++r:=fun m s=>by
   have:=((zF6 f m).app hr).back s;rw[aa6,aaz,e] at this;exact this
  have g:0<4+r.length:=an
  have i:2<4+r.length:=an
  have j:3<4+r.length:=an
  obtain⟨R,hR⟩:∃ R,R=ux f a m:=⟨_,rfl⟩;rw[<-hR];simp[e];refine wu (S:=Nat×List Bool) (fun s=>f.length-s.1) (fun s=>[(0,.int .i64 s.1),(1,.ptr 2 0),(2,.ptr 0 0),(3,.ptr 3 0)]) (fun s=>HM f s.2++r) (fun s=>ux f s.1 s.2=R/\s.1<f.length/\s.2.length=f.length/\a<=s.1) (a,m) ?_ ?_
  ·have:=p m [];simp at this;simp[av,e,this,hR,M,h3,g,i,j]
  rintro⟨b,u⟩ ⟨d,E,hu,Gg⟩;simp only at d E hu Gg |-;have P:f[b]?=some f[b]:=aae E;have F:=fun o h=>E8 (o:=o) J P h;have kJ:=L_ J P;obtain⟨x,K⟩:∃ x,x=f[b]:=⟨_,rfl⟩;rw[<-K] at P F kJ;have q:x.cs.length=4:=rfl;have Q:x.cs.take 4=x.cs:=rfl;have eN:=tF E;rw[<-K] at eN;have v:u[b]?=some u[b]:=aae an;obtain⟨t,ht⟩:∃ t,t=u[b]'(by omega):=⟨_,rfl⟩;rw[<-ht] at v;have H:=zG2 u b t v
  have bY:=Qy u b true an;rw[ux,dif_pos E,<-K] at d
  have vw:u.getD b false=t:=by rw[aan,v];rfl
  rw[vw] at d;have bu:=p u [];simp at bu;have l5:=hf;simp only[maxLen] at l5
  cases t with
  | true =>
   rw[if_pos rfl] at d;subst d
   simp(disch:=omega)[e,g0,g1,g2,N,H,aC,gO,bu]
  | false =>
   rw[if_neg ir] at d;simp(disch:=omega)[e,g0,g1,g2,N,H,aC,gO,bY,s1,FL,eN,q,Q,kk,k0];refine ax (N_ x) ?_;have T:(x.cs.drop 0).take 1=[.int .i64 x.op]:=rfl;have x1:x.cs.tail.take 1=[.int .i64 x.jt]:=rfl;have x2:(x.cs.drop 2).take 1=[.int .i64 x.jf]:=rfl;have x3:(x.cs.drop 3).take 1=[.int .u32 (x.k:Int)]:=rfl;have w:x.cs.take 1=[.int .i64 x.op]:=rfl
   have kx:∀ n,aX n x.cs=x.cs:=fun n=>by simp[af.cs,aX,V.cl]
   have vh:x.k<4294967296:=Z x (by rw[K];exact aaV E)
   have z:(u.set b true).length=f.length:=by simp[hu]
   obtain⟨U,hU⟩:∃ U,U=u.set b true:=⟨_,rfl⟩;rw[<-hU] at d z |-
   by_cases L:gL x.op=true
   ·rw[if_pos L] at d;subst d;simp[L,p]
   rw[if_neg L] at d
   have I:gL x.op=false:=by simpa using L
   have A:∀{c:Nat},b<c->c<f.length->f.length-c<f.length-b:=fun h1 M=>by omega
   by_cases l:x.op=5
   ·rw[if_pos l] at d
    have LI:gL (5:Int)=false:=by decide
    have C:=F x.k (by simp[aU,l,LI])
    have c1:fV .i64 (x.k:Int)=(x.k:Int):=by rw[E9]<;>omega
    have W:aE .i64 (b:Int) (x.k:Int)=((b+x.k:Nat):Int):=by rw[ey]<;>omega
    have X:aE .i64 ((b+x.k:Nat):Int) 1=((b+1+x.k:Nat):Int):=by rw[ey]<;>omega
    simp(disch:=omega)[I,l,LI,kk,T,w,x3,q,c1,W,X,av,e,p,d,C,z,g,i,j,-aaa];exact⟨(b+1+x.k,U),A an C,⟨d,C,z,by simp only;omega⟩,by simp[av,e,g,i,j,-aaa],p U _⟩
   rw[if_neg l] at d
   by_cases D:bf x.op=true
   ·rw[if_pos D] at d;obtain⟨b1,b2,b3,b4⟩:=kJ D
    have mE:aU x=[x.jt.toNat,x.jf.toNat]:=by simp[aU,I,l,D]
    have t_:=F x.jt.toNat (by rw[mE];simp);have kr:=F x.jf.toNat (by rw[mE];simp)
    have Y:aE .i64 (b:Int) 1=((b+1:Nat):Int):=by rw[ey]<;>omega
    have W:aE .i64 ((b+1:Nat):Int) x.jt=((b+1+x.jt.toNat:Nat):Int):=by rw[ey]<;>omega
    have X:aE .i64 (b:Int) x.jf=((b+x.jf.toNat:Nat):Int):=by rw[ey]<;>omega
    have a3:aE .i64 ((b+x.jf.toNat:Nat):Int) 1=((b+1+x.jf.toNat:Nat):Int):=by rw[ey]<;>omega
    have B:=aO l;have ih:=zx5 J Z hf n (b+1+x.jt.toNat) U (r++[some (.cells x.cs)]) (fun n=>by simp[hr,aw.cl,kx]) an t_ z;have k:=PM J n (b+1+x.jt.toNat) U an t_ z;simp(disch:=omega)[I,B,kk,T,w,q,Q,av,e,g,i,j,-aaa];refine ax (yM x) ?_;simp(disch:=omega)[D,kk,x1,N,Y,W,q,e,av,g,i,j,-aaa];refine J3 (args:=[.int .i64 ((b+1+x.jt.toNat:Nat):Int)]) (cap:=[.ptr 2 0,.ptr 0 0,.ptr 3 0]) ih ?_
    simp(disch:=omega)[kk,x2,X,a3,q,e,av,g,i,j,-aaa];exact⟨(b+1+x.jf.toNat,ux f (b+1+x.jt.toNat) U),A an kr,⟨d,kr,by simp only[k.len,z],by simp only;omega⟩,by simp[av,e,g,i,j,-aaa],p _ _⟩
   ·rw[if_neg D] at d
    have PN:bf x.op=false:=by simpa using D
    have C:=F 0 (by simp[aU,I,l,PN]);have B:=aO l
    have Y:aE .i64 (b:Int) 1=((b+1:Nat):Int):=by rw[ey]<;>omega
    simp(disch:=omega)[I,B,kk,T,w,q,Q,av,e,g,i,j,-aaa];refine ax (yM x) ?_;simp(disch:=omega)[PN,kk,Y,q,e,av,g,i,j,-aaa];exact⟨(b+1,U),A an C,⟨d,C,z,by simp only;omega⟩,by simp[av,e,g,i,j,-aaa],p U _⟩
def zHu[az G][ay G][gJ G]{f:List af}(a:dB f=true)(b:∀ x∈f,x.k<4294967296)(h:f.length<=4096) :
  FP G 347 [FL f] (.a_ [.vs (nS (pv f)) .no,.int .i64 0]):=by
 refine bD gJ.aex (aab rfl) ?_;have c:f.length<=maxLen:=aaw h (by decide);have d:=JV (G:=G) f c b;rw[a] at d;simp[FL];refine ax d ?_
 have i:0<f.length:=by
  have:=YQ a
  cases f with
  | nil=>exact absurd rfl this
  | cons x f=>simp
 have k:=zx5 (G:=G) a b c f.length 0 (aa5 f.length false) [] (fun n=>rfl) an i ir;simp(disch:=omega)[FL,av,aC];refine J3 (args:=[.int .i64 ((0:Nat):Int)]) (cap:=[.ptr 2 0,.ptr 0 0,.ptr 3 0]) k ?_;have e:(pv f).length=f.length:=(T6 a).1;have g:=U1 (pv f);rw[e] at g;rw[show ux f 0 (aa5 f.length false)=pv f from rfl];simp[HM,e,g]
def T9{m:List Bool}{i:Nat}{t:Bool}(h:m[i]?=some t):bP m (i+1)=bP m i+(if t=true then 1 else 0):=by
 rw[bP,bP,aat,h,abh,List.countP_append]
 cases t<;>simp
def zF7{m:List Bool}{i:Nat}(h:m[i]?=some true)(o:Nat):bP m (i+1+o)=bP m i+1+bP (m.drop (i+1)) o:=by rw[V4,T9 h];simp
def oL(f:List af)(m:List Bool)(i:Nat):List af:=(dJ f m).take (bP m i)
def zF8{f:List af}{m:List Bool}{i:Nat}(h:m[i]?=some false):oL f m (i+1)=oL f m i:=by rw[oL,oL,T9 h];rfl
def zDV{f:List af}{m:List Bool}{i:Nat}{x:af}(b:f.length=m.length)(c:f[i]?=some x)(h:m[i]?=some true):oL f m (i+1)=oL f m i++[kK (m.drop (i+1)) x]:=by
 have a:=Q0 f m i b;obtain⟨d,rfl⟩:=aad.1 c;obtain⟨g,e⟩:=aad.1 h;rw[aaH d,aaH g,e,dJ] at a
 have j:(dJ f m)[bP m i]?=some (kK (m.drop (i+1)) f[i]):=by rw[<-List.head?_drop,a];rfl
 rw[oL,oL,T9 h,if_pos rfl,aat,j];rfl
def zDW{f:List af}{m:List Bool}(a:f.length=m.length):oL f m f.length=dJ f m:=by rw[oL,aay];rw[Hn f m a,a,bP,aaA];exact aaF _
def zDX(f:List af)(m:List Bool)(i:Nat):(oL f m i).length<=i:=by rw[oL,aaq];have:=J0 m i;omega
def oM(m:List Bool)(i:Nat):List Nat:=(aaY m.length).map fun j=>if j<i then bP m j else 0
def zv0(m:List Bool)(i:Nat):(oM m i).length=m.length:=by simp[oM]
def zDY{m:List Bool}{i:Nat}(h:i<m.length):(oM m i).set i (bP m i)=oM m (i+1):=by
 apply abB
 ·simp[oM]
 intro j b c;simp only[oM,abE,abG,List.length_range] at b c;rw[List.getElem_set];simp only[oM,List.getElem_map,List.getElem_range]
 by_cases e:i=j
 ·subst e;simp
 ·rw[if_neg e]
  by_cases a:j<i
  ·rw[if_pos a,if_pos an]
  ·rw[if_neg a,if_neg an]
def zv1{m:List Bool}{j:Nat}(h:j<m.length):(oM m m.length)[j]?=some (bP m j):=by rw[oM,abz,abr h];simp[h]
def zHv[gJ G]{m:List Bool}{i o:Nat}(l:m.length<=4096)(hi:m[i]?=some true)(d:i+1+o<m.length)(z:aw)(y:List V) :
  bA G (.F 348 [.int .i64 i,.int .i64 o,.ptr 1 0] [some (.cells (au .i64 (oM m m.length))),some (.cells [.rs 0 0 m.length 1]),some z,some (.cells y)] (.int .i64 (bP (m.drop (i+1)) o:Nat))
   [some (.cells (au .i64 (oM m m.length))),some (.cells [.rs 0 0 m.length 1]),some z,some (.cells y)]):=by
 refine ee gJ.aey (aab rfl) ?_;have e:aE .i64 (i:Int) 1=((i+1:Nat):Int):=bH an;have f:aE .i64 ((i+1:Nat):Int) (o:Int)=((i+1+o:Nat):Int):=qM an;have n:=J0 m (i+1+o);have p:=zF7 hi o;have a:=De .i64 (zv1 (m:=m) (j:=i+1+o) d);have b:=De .i64 (zv1 (m:=m) (j:=i) an)
 have g:c_ .i64 (bP m (i+1+o):Int) (bP m i:Int)=((bP m (i+1+o)-bP m i:Nat):Int):=by rw[oW]<;>omega
 have h:c_ .i64 ((bP m (i+1+o)-bP m i:Nat):Int) 1=((bP (m.drop (i+1)) o:Nat):Int):=by rw[oW]<;>omega
 obtain⟨N,c⟩:∃ N,N=oM m m.length:=⟨_,rfl⟩
 have k:N.length=m.length:=by rw[c,zv0]
 rw[<-c] at a b |-;simp(disch:=omega)[e,f,a,b,g,h,gO,aC,k,-aaa]
def zHw{o:Int}(h:bf o=true):gL o=false:=by
 cases e:gL o with
 | false=>rfl
 | true =>
  simp only[gL,Bool.or_eq_true,beq_iff_eq,decide_eq_true_eq] at e
  rcases e with e|e<;>(rw[e] at h;revert h;decide)
def zDZ[az G][ay G][gJ G]{f:List af}(A:dB f=true)(V:∀ x∈f,x.k<4294967296)(hf:f.length<=4096) :
  FP G 349 [FL f] (.a_ [.vs (IL (prune f)) .no,.int .i64 0]):=by
 refine bD gJ.aez (aab rfl) ?_;obtain⟨W,jQ,F,_⟩:=T6 A;simp[FL];refine ax (zHu A V hf) ?_;obtain⟨m,X⟩:∃ m,m=pv f:=⟨_,rfl⟩
 have T_:prune f=dJ f m:=by rw[prune,X]
 rw[<-X] at W jQ F |-;have s:f.length=m.length:=W.symm
 have H:m.length<=4096:=an
 have jk:(nS m).length=m.length:=by simp[nS]
 simp(disch:=omega)[FL,aC,jk];obtain⟨N,n⟩:∃ N:Nat->List Nat,∀ j,N j=oM m j:=⟨_,fun _=>rfl⟩
 have I:∀ j,(N j).length=m.length:=fun j=>by rw[n,zv0]
 have Jo:aP m.length=N 0:=by
  rw[n,oM,aP]
  apply abB<;>simp
 refine aQ m.length (fun i=>[(0,FL f),(4,.vs (nS m) .no),(6,.ptr 1 0),(7,.int .i64 (bP m i:Nat)),(25,.vs (nS m) .no),(26,.int .i64 m.length),(27,.int .i64 i)])
  (fun i=>[some (.cells (au .i64 (N i))),some (.cells [.rs 0 0 m.length 1])]) (fun _=>True) ?_ ?_
 ·simp[av,aj,FL,Jo,s,Hl]
 intro i hi _
 by_cases a:i<m.length
 ·obtain⟨t,u⟩:∃ t,t=m[i]:=⟨_,rfl⟩
  have p:m[i]?=some t:=by rw[aae a,u]
  have v:(nS m)[i]?=some [.bool t]:=by simp[p]
  have r:(nS m)[i]' an=[.bool t]:=by simp[nS,u]
  have d:=xO .i64 (N i) i (bP m i) (by rw[I];exact a);rw[n i,zDY a,<-n (i+1),<-n i] at d;have B:=T9 p;have w:=J0 m i;have a1:aE .i64 (bP m i:Int) 1=((bP m i+1:Nat):Int):=bH an
  cases t with
  | true =>
   simp(disch:=omega)[bM,aC,gO,v,r,d,I,a,bH,a1,B,av,aj,FL,-aaa]
  | false =>
   simp(disch:=omega)[bM,aC,gO,v,r,d,I,a,bH,B,av,aj,FL,-aaa]
 have J:i=m.length:=an
 subst J;obtain⟨T,e⟩:∃ T:Nat->List af,∀ j,T j=oL f m j:=⟨_,fun _=>rfl⟩
 have v5:T 0=[]:=by rw[e,oL,Hl,abI]
 have K:∀ j,(T j).length<=j:=fun j=>by rw[e];exact zDX f m j
 simp(disch:=omega)[av,aj,FL,-aaa]
 refine aQ m.length (fun i=>[(4,.vs (nS m) .no),(10,.fn 348 [.ptr 1 0]),(11,.vs (IL (T i)) (.own 2)),(41,FL f),(42,.int .i64 m.length),(43,.int .i64 i)])
  (fun i=>[some (.cells (au .i64 (N m.length))),some (.cells [.rs 0 0 m.length 1]),some (.zone (T i).length)]) (fun _=>True) ?_ ?_
 ·simp[av,aj,FL,v5,s]
 intro i hi _
 by_cases a:i<m.length
 ·obtain⟨t,u⟩:∃ t,t=m[i]:=⟨_,rfl⟩
  have p:m[i]?=some t:=by rw[aae a,u]
  have r:(nS m)[i]' an=[.bool t]:=by simp[nS,u]
  obtain⟨x,c⟩:∃ x,x=f[i]'(by omega):=⟨_,rfl⟩;have C:=tF (f:=f) (i:=i) an;rw[<-c] at C;have c:=c.symm
  have L:f[i]?=some x:=by rw[aae an,c]
  have mj:x∈f:=c▸aaV _;have jF:=V x mj;have kJ:=L_ A L;have M:=fun o h=>E8 (o:=o) A L h;have D:x.cs=[.int .i64 x.op,.int .i64 x.jt,.int .i64 x.jf,.int .u32 (x.k:Int)]:=rfl;have Y:=yM (G:=G) x;simp[IV,D] at Y;have mY:=K i
  cases t with
  | false =>
   have O:T (i+1)=T i:=by rw[e,e];exact zF8 p
   simp(disch:=omega)[bM,aC,gO,r,C,c,D,O,a,bH,av,aj,FL,-aaa]
  | true =>
   have Z:T (i+1)=T i++[kK (m.drop (i+1)) x]:=by rw[e,e];exact zDV s L p
   have P:(T (i+1)).length=(T i).length+1:=by rw[Z];simp
   have Q:∀ y:af,y=kK (m.drop (i+1)) x->IL (T i)++[y.cs]=IL (T (i+1)):=fun y hy=>by rw[Z,hy];exact Mx _ _
   have E:∀ o:Nat,i+1+o<m.length->_:=fun o h=>zHv (G:=G) H p h (.zone (T i).length) x.cs;rw[<-n] at E
   by_cases g:x.op=5
   ·have R:(x.op==5)=true:=by simp[g]
    have LI:gL (5:Int)=false:=by decide
    have B:=E9 x.k jF
    have pZ:i+1+x.k<m.length:=by have:=M x.k (by simp[aU,g,LI]);omega
    have l:=E x.k pZ;have w:=J0 (m.drop (i+1)) x.k
    have tJ:fV .u32 ((bP (m.drop (i+1)) x.k:Nat):Int)=((bP (m.drop (i+1)) x.k:Nat):Int):=by unfold fV;exact vY an
    have b:=Q ⟨x.op,x.jt,x.jf,bP (m.drop (i+1)) x.k⟩ (by simp[kK,g]);simp only[af.cs] at l b;obtain⟨q,S⟩:∃ q,q=bP (m.drop (i+1)) x.k:=⟨_,rfl⟩;rw[<-S] at l b tJ w;simp(disch:=omega)[bM,aC,gO,r,C,c,D,R,B,FL,-aaa];refine kj l ir ?_;simp(disch:=omega)[aj,tJ,aC,b,P,a,bH,av,-aaa]
   have R:(x.op==5)=false:=aO g;simp(disch:=omega)[bM,aC,gO,r,C,c,D,R,FL,-aaa];refine ax Y ?_;cases z:bf x.op
   ·have b:=Q x (by simp[kK,g,z]);simp only[af.cs] at b;simp(disch:=omega)[aC,b,P,a,bH,av,aj,-aaa]
   ·obtain⟨b1,b2,b3,b4⟩:=kJ z;have o_:gL x.op=false:=zHw z
    have mE:aU x=[x.jt.toNat,x.jf.toNat]:=by simp[aU,o_,g,z]
    have mg:=M x.jt.toNat (by rw[mE];simp);have h_:=M x.jf.toNat (by rw[mE];simp);have l:=E x.jt.toNat an;have U:=E x.jf.toNat an;have b:=Q ⟨x.op,(bP (m.drop (i+1)) x.jt.toNat:Nat),(bP (m.drop (i+1)) x.jf.toNat:Nat),x.k⟩ (by simp[kK,g,z])
    have j1:((x.jt.toNat:Nat):Int)=x.jt:=an
    have j2:((x.jf.toNat:Nat):Int)=x.jf:=an
    simp only[af.cs,j1,j2] at l U b;obtain⟨q,S⟩:∃ q,q=bP (m.drop (i+1)) x.jt.toNat:=⟨_,rfl⟩;obtain⟨q2,Ih⟩:∃ q,q=bP (m.drop (i+1)) x.jf.toNat:=⟨_,rfl⟩;rw[<-S] at l b;rw[<-Ih] at U b;simp;refine kj l (by simp[aj]) ?_;simp[aj];refine kj U (by simp[aj]) ?_;simp(disch:=omega)[aj,aC,b,P,a,bH,av,-aaa]
 ·have J:i=m.length:=an
  subst J
  have O:T m.length=prune f:=by rw[e,<-s,zDW s,T_]
  simp[O]
noncomputable def rI(f:List af)(t:List TR)(a tries most:Int):(List af×List TR)×Nat×Bool :=
 uW (qE tries 0 1000) (qE most 0 32) (qE a 0 1000).toNat (prune f) (jN t)
def zBC(t:List TR):ef (jN t)=true:=by
 unfold jN;split
 ·assumption
 ·rfl
def zv2{t:List TR}(h:ef t=true)(b:l7 t):T3 t:=by
 refine⟨by have:=(MV h).2;omega,fun r a=>?_⟩
 have c:r.may=true:=by simp only[ef,aal] at h;exact aaJ.1 h.1.1 r a
 obtain⟨d,e⟩:=Jr c;obtain⟨f,g,i⟩:=b r a;exact⟨aaw d (by decide),aaw e (by decide),f,g,i⟩
def zsy{f:List af}(a:∀ x∈f,x.k<4294967296):∀ x∈prune f,x.k<4294967296:=by intro x b;obtain⟨y,c,_,d⟩:=T8 b;have:=a y c;omega
def zpB[dR G][dx G][az G][ay G][bQ G][dw G][cT G][aN G][cU G][cV G][bW G][cd G][bS G][ar G][U:dS G][cu G][aK G][cZ G][bX G][cN G][eS G][fT G][fE G][fF G][iJ G][dg G][fG G][eI G][ej G][cO G][gJ G][fi G]
  (f:List af) (t:List TR) (d tries most:Int) (h:dB f=true) (v:∀ x∈f,x.k<4294967296) (w:T3 t) (K:l7 (jN t)) :
  FP G 365 [FL f,TF t,.agg [.int .i64 d,.int .i64 tries,.int .i64 most]] (.a_ [.agg (oK (rI f t d tries most).1.1 (rI f t d tries most).1.2 (rI f t d tries most).2.1 (rI f t d tries most).2.2),.int .i64 0]):=by
 refine bD fi.aeK (aab rfl) ?_;have j:=JU h;have y:=zDZ (G:=G) h v j;obtain⟨p1,p2,_,_⟩:=T7 h;have p3:=zsy v;have z:=zDU (G:=G) d tries most;have A:=zF5 (G:=G) t w.1 w.2;have L:=zBC t;obtain⟨e,B⟩:∃ e,e=qE tries 0 1000:=⟨_,rfl⟩;obtain⟨a,l⟩:∃ a,a=qE most 0 32:=⟨_,rfl⟩
 have m:0<=a/\a<=32:=by rw[l];unfold qE;omega
 obtain⟨R,C⟩:∃ R:Nat,qE d 0 1000=R:=⟨(qE d 0 1000).toNat,by unfold qE;omega⟩
 have M:R<=1000:=by
  have:qE d 0 1000<=1000:=by unfold qE;omega
  omega
 rw[rI,<-B,<-l,C,Int.toNat_natCast];rw[<-B,<-l,C] at z;generalize prune f=F at *;generalize jN t=T at *;obtain⟨Q,D⟩:∃ Q,Q=uW e a R F T:=⟨_,rfl⟩;rw[<-D];simp only[FL,TF] at y A;simp[FL,TF];refine ax y ?_;simp;refine ax z ?_;simp;refine ax A ?_;simp[av]
 refine wu (S:=Nat×List af×List TR) (fun s=>R-s.1) (fun s=>[(5,.ptr 0 0),(6,.ptr 1 0),(9,.ptr 2 0),(27,.int .i64 R),(28,.int .i64 s.1)])
  (fun s=>[some (.cells [.int .i64 R,.int .i64 e,.int .i64 a]),some (.cells [.vs [] .full,.vs [] .full,.int .i64 0,.bool false]),some (.cells (oK s.2.1 s.2.2 s.1 false))])
  (fun s=>s.1<=R/\(uW e a (R-s.1) s.2.1 s.2.2).1=Q.1/\s.1+(uW e a (R-s.1) s.2.1 s.2.2).2.1=Q.2.1/\(uW e a (R-s.1) s.2.1 s.2.2).2.2=Q.2.2/\dB s.2.1=true/\(∀ x∈s.2.1,x.k<4294967296)/\l7 s.2.2/\ef s.2.2=true) (0,F,T) ?_ ?_
 ·simp[av,aj,oK,FL,TF,D,p1,K,L];exact p3
 rintro⟨i,E,H⟩ ⟨hi,q1,c,b,n,o,p,r⟩;simp only at hi q1 c b n o p r |-;have I:=zzc (G:=G) E H R e a n o (zv2 r p) m;simp only[FL,TF] at I
 by_cases V:i<R
 ·obtain⟨k,N⟩:∃ k,R-i=k+1:=⟨R-i-1,an⟩;rw[N,uW] at q1 c b;have O:((i:Int)<(R:Int))=True:=eq_true an;simp[O,oK,FL,TF];refine ax I ?_
  cases u:xI E H e a with
  | none =>
   rw[u] at q1 c b;simp only at q1 c b
   simp[zK,oK,FL,TF,<-q1,<-c,<-b]
  | some q =>
   rw[u] at q1 c b;simp only at q1 c b;have kk:=zvZ n o p u;simp[zK,oK,FL,TF];have J:aE .i64 (i:Int) 1=((i+1:Nat):Int):=bH an
   have g:R-(i+1)=k:=an
   refine⟨(i+1,q.1,q.2),by simp only;omega,⟨by simp only;omega,by simp only[g];exact q1,by simp only[g];omega,by simp only[g];exact b,kk.sound,kk.k,kk.tk,kk.dT r⟩,?_,?_⟩
   ·rw[J];simp[av,-aaa]
   ·rw[J];simp[aj,-aaa]
 ·have P:i=R:=an
  subst P;rw[abQ,uW] at q1 c b;simp only at q1 c b;simp[oK,FL,TF,<-q1,<-c,<-b]
structure Jb where
 p:Po
 f:List (List V)
 F:List (List V)
 T:List (List V)
 n:Int
 d:Bool
 of:List (List V)
 oc:List (List V)
 ot:List (List V)
 on:Int
 od:Bool
 at_:Int
 e:Int
 k1:Tk
 k2:Tk
 k3:Tk
 k4:Tk
 k5:Tk
 k6:Tk
 k7:Tk
def Jb.cs(j:Jb):List V:=[.vs (RL j.p.rules) j.k1,.int .u32 j.p.cF,.vs j.f j.k2,.vs j.F j.k3,.vs j.T j.k4,.int .i64 j.n,.bool j.d,.vs j.of j.k5,.vs j.oc j.k6,.vs j.ot j.k7,.int .i64 j.on,.bool j.od,.int .i64 j.at_,.int .i64 j.e]
def zL:List V:=[.vs [] .full,.vs [] .full,.vs [] .full,.int .i64 0,.bool false]
def kp(x y z:Int):List V:=[.int .i64 x,.int .i64 y,.int .i64 z]
def HC(S:List UInt8)(x y z:Int)(tb:List (List V))(j:Jb)(R:ae):ae :=
 some (.cells [.str S])::some (.cells (kp x y z))::some (.cells zL)::some (.cells j.cs)::some (.cells [.ptr 3 0])::some (.cells [.vs tb .no])::R
section
variable {S:List UInt8} {x y z:Int} {tb:List (List V)} {R:ae}
def zv3[bx G]{j:Jb}{p:Po}{a e:Int}(h:FP G 467 [.str S] (.a_ [.agg p.cs,.int .i64 a,.int .i64 e])) :
  bA G (.F 478 [.ptr 0 0,.ptr 4 0] (HC S x y z tb j R) (.a_ []) (HC S x y z tb { j with p:=p,at_:=a,e:=e,k1:=.no } R)):=by
 refine ee bx.afG (aab rfl) ?_;simp only[Po.cs] at h;simp[HC,Jb.cs];refine ax h ?_;simp
def zD0[bx G]{j:Jb}{f:List (List V)}{e:Int}(h:FP G 428 [.agg j.p.cs] (.a_ [.vs f .no,.int .i64 e])) :
  bA G (.F 479 [.ptr 4 0] (HC S x y z tb j R) (.a_ []) (HC S x y z tb { j with f:=f,e:=e,k2:=.no } R)):=by
 refine ee bx.afH (aab rfl) ?_;simp only[Po.cs] at h;simp[HC,Jb.cs];refine ax h ?_;simp
def zD1[bx G]{j:Jb}{F T:List (List V)}{n:Int}{d:Bool}{e:Int}(h:FP G 365 [.vs j.f .no,.vs tb .no,.agg (kp x y z)] (.a_ [.agg [.vs F .no,.vs T .no,.int .i64 n,.bool d],.int .i64 e])) :
  bA G (.F 480 [.ptr 4 0,.ptr 5 0,.ptr 1 0] (HC S x y z tb j R) (.a_ []) (HC S x y z tb { j with F:=F,T:=T,n:=n,d:=d,e:=e,k3:=.no,k4:=.no } R)):=by
 refine ee bx.afI (aab rfl) ?_;simp only[kp] at h;simp[HC,Jb.cs,kp];refine ax h ?_;simp
def zD2[bx G]{j:Jb}{c:List (List V)}{e:Int}(h:FP G 351 [.vs j.F .no] (.a_ [.vs c .no,.int .i64 e])) :
  bA G (.F 481 [.ptr 4 0] (HC S x y z tb j R) (.a_ []) (HC S x y z tb { j with oc:=c,e:=e,k6:=.no } R)):=by
 refine ee bx.afJ (aab rfl) ?_;simp[HC,Jb.cs];refine ax h ?_;simp
def zD3[bx G]{j:Jb}{c:List (List V)}{e:Int}(h:FP G 477 [.vs j.T .no] (.a_ [.vs c .no,.int .i64 e])) :
  bA G (.F 482 [.ptr 4 0] (HC S x y z tb j R) (.a_ []) (HC S x y z tb { j with ot:=c,e:=e,k7:=.no } R)):=by
 refine ee bx.afK (aab rfl) ?_;simp[HC,Jb.cs];refine ax h ?_;simp
end
def vS:Jb:=⟨⟨[],0⟩,[],[],[],0,false,[],[],[],0,false,0,0,.full,.full,.full,.full,.full,.full,.full⟩
def gU:ae:=[some (.cells [.fn 478 [.ptr 0 0,.ptr 4 0],.fn 479 [.ptr 4 0],.fn 480 [.ptr 4 0,.ptr 5 0,.ptr 1 0],.fn 481 [.ptr 4 0],.fn 482 [.ptr 4 0]])]
def zEC{S:List UInt8}{x y z:Int}{tb:List (List V)}{j:Jb}(h:aX 7 j.cs=j.cs):aj 7 (HC S x y z tb j gU)=HC S x y z tb j gU:=by simp[aj,HC,gU,aw.cl,aX,V.cl,Tk.cl,kp,zL];simpa[aX] using h
def zBD{S:List UInt8}{x y z:Int}{tb:List (List V)}{j:Jb}:(HC S x y z tb j gU).length=7:=rfl
def zwL[bx G]{S:List UInt8}{tab:List (List V)}{x y z:Int}{tb:List (List V)}{te:Int}{p:Po}{a e:Int}(d:(e !=0)=true)(hd:FP G 476 [.vs tab .no] (.a_ [.vs tb .no,.int .i64 te]))(h:FP G 467 [.str S] (.a_ [.agg p.cs,.int .i64 a,.int .i64 e])) :
  FP G 483 [.str S,.vs tab .no,.agg (kp x y z)] (.a_ [.agg [.vs [] .no,.vs [] .no,.vs [] .no,.int .i64 0,.bool false],.int .i64 a,.int .i64 e]):=by
 refine bD bx.afL (aab rfl) ?_;have c:=zv3 (S:=S) (x:=x) (y:=y) (z:=z) (tb:=tb) (R:=gU) (j:=vS) h;obtain⟨j,b⟩:∃ j:Jb,j={ vS with p:=p,at_:=a,e:=e,k1:=.no }:=⟨_,rfl⟩;rw[<-b] at c;have f:=zEC (S:=S) (x:=x) (y:=y) (z:=z) (tb:=tb) (j:=j) (by rw[b];simp[Jb.cs,vS,aX,V.cl,Tk.cl]);have g:=zBD (S:=S) (x:=x) (y:=y) (z:=z) (tb:=tb) (j:=vS)
 have k:j.at_=a:=by rw[b]
 have l:j.e=e:=by rw[b]
 simp[kp];refine ax hd ?_;simp;refine aQ 1 (fun i=>[(6,.ptr 2 0),(9,.ptr 4 0),(28,.rs 6 0 5 1),(29,.int .i64 5),(30,.int .i64 i)]) (fun _=>HC S x y z tb vS gU) (fun i=>i=0) ?_ ?_
 ·simp[av,aj,HC,gU,kp,zL,vS,Jb.cs,RL,aw.cl,aX,V.cl,Tk.cl]
 rintro i hi rfl;have m:(HC S x y z tb vS gU)[6]?=some (some (.cells [.fn 478 [.ptr 0 0,.ptr 4 0],.fn 479 [.ptr 4 0],.fn 480 [.ptr 4 0,.ptr 5 0,.ptr 1 0],.fn 481 [.ptr 4 0],.fn 482 [.ptr 4 0]])):=rfl;simp[m];refine kj (by simpa using c) (fun h=>by simp at h) ?_;rw[g,f];simp[HC,Jb.cs,k,l,d,kp,zL]
def zwM[bx G]{S:List UInt8}{tab:List (List V)}{x y z:Int}{tb:List (List V)}{te:Int}{J:Nat->Jb}(o:J 0=vS)(hd:FP G 476 [.vs tab .no] (.a_ [.vs tb .no,.int .i64 te]))
  (p:bA G (.F 478 [.ptr 0 0,.ptr 4 0] (HC S x y z tb (J 0) gU) (.a_ []) (HC S x y z tb (J 1) gU)))
  (q:bA G (.F 479 [.ptr 4 0] (HC S x y z tb (J 1) gU) (.a_ []) (HC S x y z tb (J 2) gU)))
  (r:bA G (.F 480 [.ptr 4 0,.ptr 5 0,.ptr 1 0] (HC S x y z tb (J 2) gU) (.a_ []) (HC S x y z tb (J 3) gU)))
  (s:bA G (.F 481 [.ptr 4 0] (HC S x y z tb (J 3) gU) (.a_ []) (HC S x y z tb (J 4) gU)))
  (t:bA G (.F 482 [.ptr 4 0] (HC S x y z tb (J 4) gU) (.a_ []) (HC S x y z tb (J 5) gU)))
  (u:∀ i,i<=5->aX 7 (J i).cs=(J i).cs) (c:∀ i,1<=i->i<=5->(J i).e=0) :
  FP G 483 [.str S,.vs tab .no,.agg (kp x y z)] (.a_ [.agg [.vs (J 5).F .no,.vs (J 5).oc .no,.vs (J 5).ot .no,.int .i64 (J 5).n,.bool (J 5).d],.int .i64 0,.int .i64 0]):=by
 refine bD bx.afL (aab rfl) ?_;have a:=fun i hi=>zEC (S:=S) (x:=x) (y:=y) (z:=z) (tb:=tb) (u i hi);have b:=fun i=>zBD (S:=S) (x:=x) (y:=y) (z:=z) (tb:=tb) (j:=J i);simp[kp];refine ax hd ?_;simp;refine aQ 5 (fun i=>[(6,.ptr 2 0),(9,.ptr 4 0),(28,.rs 6 0 5 1),(29,.int .i64 5),(30,.int .i64 i)]) (fun i=>HC S x y z tb (J i) gU) (fun i=>True) ?_ ?_
 ·simp[av,aj,HC,gU,kp,zL,o,vS,Jb.cs,RL,aw.cl,aX,V.cl,Tk.cl]
 intro i hi _;have f:∀ i,(HC S x y z tb (J i) gU)[6]?=some (some (.cells [.fn 478 [.ptr 0 0,.ptr 4 0],.fn 479 [.ptr 4 0],.fn 480 [.ptr 4 0,.ptr 5 0,.ptr 1 0],.fn 481 [.ptr 4 0],.fn 482 [.ptr 4 0]])):=fun _=>rfl;have v:∀ i,(HC S x y z tb (J i) gU)[3]?=some (some (.cells (J i).cs)):=fun _=>rfl;have w:∀ i,(HC S x y z tb (J i) gU)[4]?=some (some (.cells [.ptr 3 0])):=fun _=>rfl;have g:∀ i (h:3<(HC S x y z tb (J i) gU).length),(HC S x y z tb (J i) gU)[3]'h=some (.cells (J i).cs):=fun _ _=>rfl
 have k:∀ i (h:4<(HC S x y z tb (J i) gU).length),(HC S x y z tb (J i) gU)[4]'h=some (.cells [.ptr 3 0]):=fun _ _=>rfl
 rcases aam hi with m|A
 ·subst m;simp[HC,Jb.cs,kp,zL]
 have nx:∀ i,i<5->(J (i+1)).e=0:=fun i h=>c _ an an;have l:∀ i,(J i).cs.length=14:=fun _=>rfl;have kd:∀ i,((J i).cs.drop 13).take 1=[.int .i64 (J i).e]:=fun _=>rfl
 have:i=0\/i=1\/i=2\/i=3\/i=4:=an
 rcases this with rfl|rfl|rfl|rfl|rfl
 ·simp[f];refine kj (by simpa using p) (fun h=>by simp at h) ?_;rw[b,a 1 (by decide)];simp[g,k,l,kd,nx,av,b,a,show aE .i64 0 1=1 by decide]
 ·simp[f];refine kj (by simpa using q) (fun h=>by simp at h) ?_;rw[b,a 2 (by decide)];simp[g,k,l,kd,c,av,b,a,show aE .i64 1 1=2 by decide]
 ·simp[f];refine kj (by simpa using r) (fun h=>by simp at h) ?_;rw[b,a 3 (by decide)];simp[g,k,l,kd,c,av,b,a,show aE .i64 2 1=3 by decide]
 ·simp[f];refine kj (by simpa using s) (fun h=>by simp at h) ?_;rw[b,a 4 (by decide)];simp[g,k,l,kd,c,av,b,a,show aE .i64 3 1=4 by decide]
 ·simp[f];refine kj (by simpa using t) (fun h=>by simp at h) ?_;rw[b,a 5 (by decide)];simp[g,k,l,kd,c,av,b,a,show aE .i64 4 1=5 by decide]
open Go Go.RowKit
variable {G:aM}
def uy:Nat->Nat->List Nat
 | 0,n=>[n%16]
 | m+1,n=>if n<16 then [n%16] else uy m (n/16)++[n%16]
def Ua:∀(m n:Nat),n<16^(m+1)->(∀ d∈uy m n,d<16)/\1<=(uy m n).length/\(uy m n).length<=m+1/\((uy m n).head?=some 0->(uy m n).length=1/\n=0)/\iy (uy m n)=n
 | 0,n,h=>by
  have:n%16=n:=aax (by simpa using h);simp[uy,this,iy]
  simpa using h
 | m+1,n,h=>by
  unfold uy;split
  ·rename_i a;have:n%16=n:=aax a;simp[this,iy,a]
  ·rename_i a;obtain⟨e,b,i,f,g⟩:=Ua m (n/16) (by rw[abS] at h;omega);refine⟨fun d hd=>?_,ir,by simp;omega,fun c=>?_,by rw[Gn,g];omega⟩
   ·rcases aaG.1 hd with hd|hd
    ·exact e d hd
    ·simp at hd;omega
   ·have:(uy m (n/16)).head?=some 0:=by
     cases hd:uy m (n/16) with
     | nil=>rw[hd] at b;simp at b
     | cons x l=>rw[hd] at c;simpa using c
    have:=(f this).2;omega
def zHx{d:Nat}(h:d<16):kg d=aaL (if 9<d then 87+d else 48+d):=by
 unfold kg
 congr 1
 split<;>split<;>omega
def zrA[dy G]:∀(m n:Nat),m<=100->n<16^(m+1)->n<18446744073709551616->FP G 430 [.int .u64 n] (.str ((uy m n).map kg))
 | m,n,z,k,w=>by
  obtain⟨d,hd⟩:∃ d,d=n%16:=⟨_,rfl⟩
  have x:d<16:=an
  have g:mV (n:Int) 16=((d:Nat):Int):=by rw[hd];exact Cl (b:=16)
  have q1:mr .u64 (n:Int) 16=((n/16:Nat):Int):=YK (b:=16) w;have i:aE .u64 48 (d:Int)=((48+d:Nat):Int):=IntWalk.u64_in _ ⟨an,an⟩;have l:aE .u64 87 (d:Int)=((87+d:Nat):Int):=IntWalk.u64_in _ ⟨an,an⟩;have j:=zAC (a:=48+d) an;have o:=zAC (a:=87+d) an;have p:=zHx x;have e:=(Ua m n k).2.2.1;have A:∀ s:List UInt8,s.length<=101->(s.length<=9223372036854775806)=True:=fun s h=>eq_true an
  refine bD dy.afe (aab rfl) ?_
  by_cases q:n<16
  ·have e:((n:Int)<16)=True:=eq_true an
   have r:uy m n=[d]:=by cases m<;>simp[uy,q,hd]
   rw[r,aa0,abv,p]
   by_cases f:9<d
   ·have c:(9<(d:Int))=True:=eq_true an;simp[g,i,l,j,o,c,f,e,-aaa]
   ·have c:(9<(d:Int))=False:=eq_false an;simp[g,i,j,c,f,e,-aaa]
  ·cases m with
   | zero=>simp at k;omega
   | succ m =>
   have e:((n:Int)<16)=False:=eq_false an
   have t:n/16<16^(m+1):=by rw[abS] at k;omega
   have u:=zrA m (n/16) an t an;have r:=(Ua m (n/16) t).2.2.1;have v:((uy m (n/16)).length<=9223372036854775806)=True:=eq_true an
   have y:uy (m+1) n=uy m (n/16)++[d]:=by simp[uy,q,hd]
   rw[y,List.map_append,aa0,abv,p]
   by_cases f:9<d
   ·have c:(9<(d:Int))=True:=eq_true an;simp[g,q1,i,l,j,o,c,f,e,-aaa,-aa9];refine ax u ?_;simp[v]
   ·have c:(9<(d:Int))=False:=eq_false an;simp[g,q1,i,j,c,f,e,-aaa,-aa9];refine ax u ?_;simp[v]
def LJ[dy G](n:Nat)(a:n<18446744073709551616):FP G 431 [.int .u64 n] (.str (br n)):=by have h:=zrA (G:=G) 15 n (by decide) (by simpa using a) a;obtain⟨c,d,g,e,f⟩:=Ua 15 n (by simpa using a);have b:=(ztC c d an (fun h=>(e h).1)).2;rw[f] at b;rw[b];refine bD dy.aff (aab rfl) ?_;simp;refine ax h ?_;simp[show(2+(uy 15 n).length<=9223372036854775807)=True from eq_true an]
def jD(v:Nat):List UInt8:=if eg v then iT v else []
def zng[dy G][jO G](v:Nat)(j:v<4294967296):FP G 432 [.int .u32 v] (.str (jD v)):=by
 refine bD jO.afg (aab rfl) ?_
 by_cases q:327680<=v/\v<=331775
 ·have c:(327680<=(v:Int))=True:=eq_true an;have l:((v:Int)<=331775)=True:=eq_true an;have m:=LJ (G:=G) (v-327680) an;have r:=I2 (v-327680)
  have n:c_ .u32 (v:Int) 327680=((v-327680:Nat):Int):=by rw[O9 j];omega
  have o:fV .u64 ((v-327680:Nat):Int)=((v-327680:Nat):Int):=IntWalk.u64_in _ ⟨an,an⟩
  have b:jD v=kI++br (v-327680):=by
   have d:eg v=true:=by simp[eg];omega
   have:=Gv d;rw[jD,if_pos d];have a:=zqh (k:=v-327680) an;rw[show 327680+(v-327680)=v by omega] at a;exact(BS a).2
  rw[b];generalize br (v-327680)=T at *;generalize v-327680=k at *;simp[c,l,n,o];refine ax m ?_;simp[kI,show(6+T.length<=9223372036854775807)=True from eq_true an]
 ·have c:(decide (327680<=(v:Int))&&decide ((v:Int)<=331775))=false:=by simp only[Bool.and_eq_false_iff,decide_eq_false_iff_not];omega
  by_cases a:v=0\/v=196608\/v=2147221504\/v=2147418112
  ·rcases a with rfl|rfl|rfl|rfl
   ·rw[show jD 0=[107,105,108,108] by decide];simp
   ·rw[show jD 196608=[116,114,97,112] by decide];simp
   ·rw[show jD 2147221504=[108,111,103] by decide];simp
   ·rw[show jD 2147418112=[97,108,108,111,119] by decide];simp
  ·have b:jD v=[]:=by
    have:eg v=false:=by simp[eg];omega
    rw[jD,this];rfl
   rw[b]
   have e:((v:Int)==0)=false:=by simp;omega
   have f:((v:Int)==196608)=false:=by simp;omega
   have g:((v:Int)==2147221504)=false:=by simp;omega
   have h:((v:Int)==2147418112)=false:=by simp;omega
   by_cases i:(327680:Int)<=(v:Int)
   ·have p:((v:Int)<=331775)=False:=eq_false an;simp[i,p,e,f,g,h]
   ·simp[i,e,f,g,h]
def cw(l:List (List UInt8)):List (List V):=l.map fun w=>[.str w]
def zze(a:List (List UInt8))(w:List UInt8):cw a++[[.str w]]=cw (a++[w]):=by simp[cw]
@[simp] theorem zHy (a:List (List UInt8)):(cw a).length=a.length:=by simp[cw]
theorem C8{l:List (List UInt8)}{i:Nat}{x:List UInt8}(h:l[i]?=some x):(cw l)[i]?=some [.str x]:=by simp[cw,h]
def zv4(a:List (List UInt8)):(∀ f∈cw a,f.length=1)=True:=by simp only[eq_iff_iff,iff_true];intro f b;simp only[cw,aaI] at b;obtain⟨_,_,rfl⟩:=b;rfl
def mC(m:UInt8):List (List UInt8)×List UInt8->List UInt8->List (List UInt8)×List UInt8
 | q,[]=>q
 | q,b::s=>if b=m then mC m (q.1++[q.2],[]) s else mC m (q.1,q.2++[b]) s
def zqo(m:UInt8):∀(s:List UInt8) (q:List (List UInt8)×List UInt8),(mC m q s).1++[(mC m q s).2]=q.1++(match gD m s with|[]=>[]|w::r=>(q.2++w)::r)
 | [],q=>by simp[mC,gD]
 | b::s,q=>by
  have c:=Ad m s;unfold mC gD
  by_cases h:b=m
  ·rw[if_pos h,if_pos h,zqo m s]
   cases a:gD m s with
   | nil=>exact absurd a c
   | cons w r=>simp
  ·rw[if_neg h,if_neg h,zqo m s]
   cases a:gD m s with
   | nil=>exact absurd a c
   | cons w r=>simp
def zv5(m:UInt8):∀(a b:List UInt8) (q:List (List UInt8)×List UInt8),mC m q (a++b)=mC m (mC m q a) b
 | [],b,q=>rfl
 | x::a,b,q=>by
  simp only[aa8,mC]
  split<;>exact zv5 m a b _
def zqp(m:UInt8):∀(s:List UInt8) (q:List (List UInt8)×List UInt8),(mC m q s).1.length<=q.1.length+s.length/\(mC m q s).2.length<=q.2.length+s.length
 | [],q=>by simp[mC]
 | b::s,q=>by
  unfold mC;split
  ·have:=zqp m s (q.1++[q.2],[]);simp at this |-;omega
  ·have:=zqp m s (q.1,q.2++[b]);simp at this |-;omega
def zv6[jE G](s:List UInt8)(m:UInt8)(E:s.length<=1000000):FP G 486 [.str s,.int .u8 (m.toNat:Nat)] (.vs (cw (gD m s)) .no):=by
 refine bD jE.afN (aab rfl) ?_;obtain⟨C,c⟩:∃ C:Nat->List (List UInt8)×List UInt8,∀ i,C i=mC m ([],[]) (s.take i):=⟨_,fun _=>rfl⟩
 have d:∀ i,(C i).1.length<=1000000/\(C i).2.length<=1000000:=fun i=>by
  have:=zqp m (s.take i) ([],[]);rw[<-c] at this;simp at this;omega
 have q:∀ i b,s[i]?=some b->C (i+1)=if b=m then((C i).1++[(C i).2],[]) else((C i).1,(C i).2++[b]):=by intro i b e;rw[c,c,aat,e,zv5];simp only[abO,mC]
 have t:gD m s=(C s.length).1++[(C s.length).2]:=by
  rw[c,aaA,zqo];have u:=Ad m s
  cases v:gD m s with
  | nil=>exact absurd v u
  | cons w r=>simp
 have j:C 0=([],[]):=by rw[c];rfl
 rw[t];simp;refine aQ s.length (fun i=>[(0,.str s),(1,.int .u8 (m.toNat:Nat)),(5,.vs (cw (C i).1) (.own 0)),(6,.str (C i).2),(7,.int .i64 i)]) (fun i=>[some (.zone (C i).1.length)]) (fun _=>True) ?_ ?_
 ·simp[av,aj,j,cw]
 intro i hi _;obtain⟨F,H⟩:=d i
 have l:((C i).1.length+1)*16<=140737488355328:=an
 have n:=zze (C i).1 (C i).2;have o:=zv4 (C i).1
 rcases aam hi with x|f
 ·subst x;simp[l,o,n]
 ·obtain⟨b,e⟩:∃ b,s[i]?=some b:=⟨_,aae f⟩;obtain⟨_,k⟩:=aad.1 e;have a:=q i b e
  have p:aE .i64 (i:Int) 1=((i+1:Nat):Int):=by rw[ey]<;>omega
  by_cases g:b=m
  ·rw[if_pos g] at a;subst g;simp(disch:=omega)[f,k,l,o,n,a,p,av,aj,-aaa]
  ·rw[if_neg g] at a;have y:((b.toNat:Int)==(m.toNat:Int))=false:=I8 fun h=>g (abH.1 h);have z:((i:Int)<=((i+1:Nat):Int))=True:=eq_true an;have A:(((i+1:Nat):Int)<=(s.length:Int))=True:=eq_true an
   have B:(s.drop i).take 1=[b]:=by rw[aaH f,k];rfl
   have D:((C i).2.length+1<=9223372036854775807)=True:=eq_true an;simp(disch:=omega)[f,k,y,a,p,z,A,B,D,av,aj,-aaa]
def zBE(x:Int):∃ v:Nat,v<18446744073709551616/\IntKind.u64.wrap x=(v:Int):=by refine⟨(IntKind.u64.wrap x).toNat,?_⟩;simp only[IntKind.wrap,show IntKind.u64.signed=false from rfl];simp[IntKind.bits];omega
def zoz[ij G][dy G](s:List UInt8)(hl:s.length<=1000000):FP G 487 [.str s] (.a_ [.int .u64 ((dH s).getD 0:Nat),.bool (dH s).isSome]):=by
 refine bD ij.afO (aab rfl) ?_
 cases D:dH s with
 | some n =>
  obtain⟨E,F⟩:=Aa D;obtain⟨ds,m,o,H,h4,h5,h6⟩:=I1 n E;rw[F] at m;have g:=LJ (G:=G) n E;rw[F] at g;obtain⟨N,P⟩:∃ N,N=ds.length:=⟨_,rfl⟩
  have j:s.length=N+2:=by rw[m];simp;omega
  have e:(((N:Int)+2)<3)=False:=eq_false an;have l:(18<(N:Int)+2)=False:=eq_false an;obtain⟨a,BT⟩:∃ a:Nat->Nat,∀ i,a i=iy (ds.take i):=⟨_,fun _=>rfl⟩
  have p:a N=n:=by rw[BT,P,aaA,H]
  have Q:a 0=0:=by rw[BT];rfl
  simp(disch:=omega)[j,e,l];refine aQ N (fun k=>[(0,.str s),(4,.int .u64 (a k:Nat)),(5,.int .i64 (k+2:Nat))]) (fun _=>[]) (fun _=>True) ?_ ?_
  ·simp[av,aj,Q]
  intro k R _
  rcases aam R with T|c
  ·subst T;have U:(((k+2:Nat):Int)<((k+2:Nat):Int))=False:=eq_false an;simp(disch:=omega)[j,U,p,-aaa];refine ax g ?_;simp
  ·have r:k<ds.length:=an
   obtain⟨d,hd⟩:∃ d,d=ds[k]:=⟨_,rfl⟩
   have t:ds[k]?=some d:=by rw[aae r,hd]
   have V:d<16:=o d (aah t)
   have W:s[k+2]?=some (kg d):=by rw[m,abi ir];simp[t]
   obtain⟨DL,I⟩:=aad.1 W
   have X:a (k+1)=16*a k+d:=by rw[BT,BT,aat,t];exact Gn _ _
   have Er:a k*16+16<=18446744073709551616:=by
    have:=zsm k (ds.take k) (by rw[aaq];omega) (fun y Y=>o y (aap Y));rw[<-BT] at this;have o:16^k<=16^15:=Nat.pow_le_pow_right (by decide) an
    have H:(16:Nat)^15=1152921504606846976:=by decide
    omega
   have J:(((k+2:Nat):Int)<((N+2:Nat):Int))=True:=eq_true an
   have f:aE .i64 ((k+2:Nat):Int) 1=((k+1+2:Nat):Int):=by rw[ey]<;>omega
   have K:eO .u64 (a k:Int) 16=((a k*16:Nat):Int):=by unfold eO;rw[show(a k:Int)*16=((a k*16:Nat):Int) by omega];exact IntWalk.u64_in _ ⟨an,an⟩
   have L:aE .u64 ((a k*16:Nat):Int) (d:Int)=(a (k+1):Int):=by unfold aE;rw[X,show((a k*16:Nat):Int)+(d:Int)=((16*a k+d:Nat):Int) by omega];exact IntWalk.u64_in _ ⟨an,an⟩
   by_cases Z:d<10
   ·have u:=zBb Z;have w:fV .u64 ((48+d:Nat):Int)=((48+d:Nat):Int):=IntWalk.u64_in _ ⟨an,an⟩
    have x:c_ .u64 ((48+d:Nat):Int) 48=(d:Int):=by unfold c_;rw[show((48+d:Nat):Int)-48=(d:Int) by omega];exact IntWalk.u64_in _ ⟨an,an⟩
    have z:((97:Int)<=((48+d:Nat):Int))=False:=eq_false an;simp(disch:=omega)[j,J,I,u,w,x,z,K,L,f,av,c,-aaa,-aav]
   ·have u:=zBc V an;have w:fV .u64 ((87+d:Nat):Int)=((87+d:Nat):Int):=IntWalk.u64_in _ ⟨an,an⟩
    have x:c_ .u64 ((87+d:Nat):Int) 87=(d:Int):=by unfold c_;rw[show((87+d:Nat):Int)-87=(d:Int) by omega];exact IntWalk.u64_in _ ⟨an,an⟩
    have z:((97:Int)<=((87+d:Nat):Int))=True:=eq_true an
    simp(disch:=omega)[j,J,I,u,w,x,z,K,L,f,av,c,-aaa,-aav]
 | none =>
  by_cases e:(s.length:Int)<3
  ·simp[e]
  by_cases l:18<(s.length:Int)
  ·simp[e,l]
  simp[e,l];refine wu (S:=Nat×Nat) (fun q=>s.length-q.1) (fun q=>[(0,.str s),(4,.int .u64 (q.2:Nat)),(5,.int .i64 (q.1:Nat))]) (fun _=>[]) (fun q=>q.1<=s.length/\q.2<18446744073709551616) (2,0) ?_ ?_
  ·refine⟨⟨by simp only;omega,by decide⟩,?_,?_⟩<;>simp[av,aj]
  rintro⟨i,v⟩ ⟨p1,p2⟩;simp only at p1 p2 |-
  by_cases c:i<s.length
  ·obtain⟨b,hb⟩:∃ b,s[i]?=some b:=⟨_,aae c⟩;obtain⟨_,M⟩:=aad.1 hb
   have f:aE .i64 (i:Int) 1=((i+1:Nat):Int):=by rw[ey]<;>omega
   by_cases O:(97:Int)<=(b.toNat:Int)
   ·simp[c,M,O,f,-aaa];obtain⟨A,B,C⟩:=zBE (eO .u64 (v:Int) 16+c_ .u64 (fV .u64 (b.toNat:Int)) 87);exact⟨(i+1,A),by simp only;omega,⟨by simp only;omega,B⟩,by simp only[<-C];simp[av,aE],by simp[aj]⟩
   ·simp[c,M,O,f,-aaa];obtain⟨A,B,C⟩:=zBE (eO .u64 (v:Int) 16+c_ .u64 (fV .u64 (b.toNat:Int)) 48);exact⟨(i+1,A),by simp only;omega,⟨by simp only;omega,B⟩,by simp only[<-C];simp[av,aE],by simp[aj]⟩
  ·have g:=LJ (G:=G) v p2
   have aB:(br v==s)=false:=by rw[beq_eq_false_iff_ne];exact fun h=>O_ D v ⟨p2,h⟩
   simp[c];refine ax g ?_;simp[aB]
def NV(M:List (List UInt8×Int)):V:=.vs (cw (M.map (·.1))) .no
def KV(M:List (List UInt8×Int)):V:=.vs (M.map fun p=>[.int .u32 p.2]) .no
def zsz{α:Type}(f:α->Bool):∀ M:List α,∃ N,N<=M.length/\(∀ i p,i<N->M[i]?=some p->f p=false)/\(N<M.length->∃ p,M[N]?=some p/\f p=true/\M.find? f=some p)/\(N=M.length->M.find? f=none)
 | []=>⟨0,aaF _,fun i p h=>absurd h (abl _),fun h=>absurd h (abl _),fun _=>rfl⟩
 | x::M=>by
  cases a:f x with
  | true=>exact⟨0,abc _,fun i p h=>absurd h (abl _),fun _=>⟨x,rfl,a,by simp[a]⟩,fun h=>by simp at h⟩
  | false =>
   obtain⟨N,c,d,e,g⟩:=zsz f M;refine⟨N+1,by simpa using c,?_,?_,?_⟩
   ·intro i p hi b
    cases i with
    | zero=>simp at b;subst b;exact a
    | succ i=>exact d i p an (by simpa using b)
   ·intro h;obtain⟨p,j,k,l⟩:=e (by simpa using h);exact⟨p,by simpa using j,k,by simp[a,l]⟩
   ·intro h;have:=g (by simpa using h);simp[a,this]
def zqq[eD G][dy G]{M:List (List UInt8×Int)}(f:iG M)(t:M.length<=100)(n:Nat)(u:n<4294967296):FP G 490 [NV M,KV M,.int .u32 n] (.str (cY M n)):=by
 refine bD eD.afR (aab rfl) ?_;obtain⟨N,v,g,h,j⟩:=zsz (fun p:List UInt8×Int=>p.2==(n:Int)) M;have k:fV .u64 (n:Int)=(n:Int):=IntWalk.u64_in _ ⟨an,an⟩;have l:=LJ (G:=G) n an;simp[NV,KV]
 refine aQ N (fun i=>[(0,.vs (cw (M.map (·.1))) .no),(1,.vs (M.map fun p=>[.int .u32 p.2]) .no),(2,.int .u32 n),(7,.int .i64 i)]) (fun _=>[]) (fun _=>True) ?_ ?_
 ·simp[av,aj]
 intro i hi _
 rcases aam hi with m|a
 ·subst m
  by_cases a:i<M.length
  ·obtain⟨p,b,c,o⟩:=h a
   have d:cY M n=p.1:=by
    have:pg M n=p.1:=by simp[pg,o]
    rw[cY,this,if_neg (f.cJ p (aah b)).2.1]
   obtain⟨_,e⟩:=aad.1 b;rw[d];simp[a,e,c,cw]
  ·have:i=M.length:=an
   subst this;have q:=j rfl
   have d:cY M n=br n:=by simp[cY,pg,q]
   rw[d];simp[k];refine ax l ?_;simp
 ·obtain⟨p,b⟩:∃ p,M[i]?=some p:=⟨_,aae an⟩;have c:=g i p a b;obtain⟨r,e⟩:=aad.1 b
  have s:aE .i64 (i:Int) 1=((i+1:Nat):Int):=by rw[ey]<;>omega
  simp[r,e,c,s,av,aj,a,cw,-aaa]
def zv7[eD G][dy G][ij G]{M:List (List UInt8×Int)}(f:iG M)(x:M.length<=100)(s:List UInt8)(y:s.length<=1000000):FP G 491 [NV M,KV M,.str s] (.a_ [.int .u32 ((oV M s).getD 0:Nat),.bool (oV M s).isSome]):=by
 refine bD eD.afS (aab rfl) ?_;obtain⟨N,F,z,A,t⟩:=zsz (fun p:List UInt8×Int=>p.1==s) M;have b:=zoz (G:=G) s y;have u:=fun n d=>zqq (G:=G) f x n d;simp only[NV,KV] at u;simp[NV,KV]
 refine aQ N (fun i=>[(0,.vs (cw (M.map (·.1))) .no),(1,.vs (M.map fun p=>[.int .u32 p.2]) .no),(2,.str s),(8,.int .i64 i)]) (fun _=>[]) (fun _=>True) ?_ ?_
 ·simp[av,aj]
 intro i hi _
 rcases aam hi with c|e
 ·subst c
  by_cases e:i<M.length
  ·obtain⟨p,a,g,j⟩:=A e;rw[zqb j] at j;obtain⟨v,B,k⟩:=ztF f j;obtain⟨_,l⟩:=aad.1 a
   have m:p.1=s:=by simpa using g
   simp[e,l,m,cw,k,B]
  ·have:i=M.length:=an
   subst this;have k:=ztG f (t rfl);rw[k]
   cases d:dH s with
   | none =>
    rw[d] at b;simp;refine ax b ?_
    simp
   | some n =>
    rw[d] at b;have C:=(Aa d).2
    by_cases o:n<4294967296
    ·have a:(4294967295<(n:Int))=False:=eq_false an;have q:fV .u32 (n:Int)=(n:Int):=IntWalk.u32_in _ ⟨an,an⟩;have w:=u n o
     by_cases c:pg M n=[]
     ·have r:cY M n=s:=by rw[cY,if_pos c,C]
      rw[r] at w;simp;refine ax b ?_;simp[a,q];refine ax w ?_;simp[q,o,c]
     ·have r:(cY M n==s)=false:=by rw[beq_eq_false_iff_ne];intro h;exact c (zlT f (t rfl) h).1
      simp;refine ax b ?_;simp[a,q];refine ax w ?_;simp[c,r]
    ·have a:(4294967295<(n:Int))=True:=eq_true an;simp;refine ax b ?_;simp[a,o]
 ·obtain⟨p,a⟩:∃ p,M[i]?=some p:=⟨_,aae an⟩;have g:=z i p e a;obtain⟨D,l⟩:=aad.1 a
  have E:aE .i64 (i:Int) 1=((i+1:Nat):Int):=by rw[ey]<;>omega
  simp[D,l,g,E,av,aj,e,cw,-aaa]
def zkO[eD G]:FP G 488 [] (.a_ [NV pU,KV pU]):=by refine bD eD.afP (aab rfl) ?_;simp[NV,KV,pU,cw]
def zwN[eD G][dy G](a:Nat)(b:a<4294967296):FP G 492 [.int .u32 a] (.str (cY pU a)):=by refine bD eD.afT (aab rfl) ?_;have w:=zqq (G:=G) EF (by decide) a b;have q:=zkO (G:=G);simp only[NV,KV] at w q;simp;refine ax q ?_;simp;refine ax w ?_;simp
def zrB[eD G][dy G][ij G](s:List UInt8)(a:s.length<=1000000):FP G 493 [.str s] (.a_ [.int .u32 ((oV pU s).getD 0:Nat),.bool (oV pU s).isSome]):=by refine bD eD.afU (aab rfl) ?_;have w:=zv7 (G:=G) EF (by decide) s a;have q:=zkO (G:=G);simp only[NV,KV] at w q;simp;refine ax q ?_;simp;refine ax w ?_;simp
def zM:List (List Int):=[[0,1,2,3,60,57,62,9],[3,4,5,6,1,2,37,90],[63,64,1000000,57,93,1000000,129,222],[3,4,5,6,1,2,37,1000000]]
def B9:List (List UInt8):=[CU,CV,Gp,CW,CX,Gq,CY,Gr]
def rJ(a i k:Nat):Option (List UInt8×Int):=if(pU.getD i ([],0)).2=(a:Int)/\(zM.getD i []).getD k 0≠1000000 then some (B9.getD k [],(zM.getD i []).getD k 0) else none
def vT(a j:Nat):List (List UInt8×Int):=(aaY j).filterMap fun j=>rJ a (j/8) (j%8)
def zBF(a i k:Nat)(d:k<8):vT a (8*i+k+1)=vT a (8*i+k)++(rJ a i k).toList:=by
 have b:(8*i+k)/8=i:=an
 have c:(8*i+k)%8=k:=an
 unfold vT;rw[List.range_succ,List.filterMap_append,List.filterMap_cons,b,c]
 cases rJ a i k<;>rfl
def zv8(a:Nat):vT a 32=oU a:=by
 by_cases b:a=3221225534
 ·subst b;rfl
 by_cases c:a=1073741827
 ·subst c;rfl
 by_cases d:a=3221225655
 ·subst d;rfl
 by_cases f:a=1073741864
 ·subst f;rfl
 have i:oU a=[]:=by simp[oU,Gs,b,c,d,f]
 rw[i];unfold vT;rw[List.filterMap_eq_nil_iff];intro j g
 have g:j<32:=by simpa using g
 unfold rJ;rw[if_neg];rintro⟨h,_⟩
 have:j/8=0\/j/8=1\/j/8=2\/j/8=3:=an
 rcases this with e|e|e|e<;>rw[e] at h<;>simp[pU] at h<;>omega
def zv9(a:Nat):∀ j,(vT a j).length<=j:=fun j=>by
 unfold vT;have:=List.length_filterMap_le (fun j=>rJ a (j/8) (j%8)) (aaY j);simpa using this
def zF9{β:Type}(f:β->V)(l:List β):(∀ x∈l.map (fun b=>[f b]),x.length=1)=True:=by simp only[eq_iff_iff,iff_true];intro x a;simp only[aaI] at a;obtain⟨_,_,rfl⟩:=a;rfl
def ztS[eD G](a:Nat):FP G 489 [.int .u32 a] (.a_ [NV (oU a),KV (oU a)]):=by
 refine bD eD.afQ (aab rfl) ?_;have W:=zkO (G:=G);obtain⟨S,t⟩:∃ S:Nat->List (List UInt8×Int),∀ j,S j=vT a j:=⟨_,fun _=>rfl⟩
 have Y:∀ j,(S j).length<=j:=fun j=>by rw[t];exact zv9 a j
 have Z:S 0=[]:=by rw[t];rfl
 have Y7:∀ i k,k<8->S (8*i+k+1)=S (8*i+k)++(rJ a i k).toList:=fun i k h=>by rw[t,t];exact zBF a i k h
 have F:oU a=S 32:=by rw[t];exact(zv8 a).symm
 rw[F];obtain⟨g,H⟩:∃ g:List (List V),g=B9.map fun w=>[.str w]:=⟨_,rfl⟩;obtain⟨l,d⟩:∃ l:List (List V),l=zM.map fun r=>[.vs (r.map fun n=>[.int .u32 n]) .full]:=⟨_,rfl⟩;obtain⟨o,e⟩:∃ o:List (List V),o=pU.map fun p=>[.int .u32 p.2]:=⟨_,rfl⟩
 have u:∀ M,NV M=.vs (cw (M.map (·.1))) .no:=fun _=>rfl
 have x:∀ M,KV M=.vs (M.map fun p=>[.int .u32 p.2]) .no:=fun _=>rfl
 have gN:∀ k,k<8->g[k]?=some [.str (B9.getD k [])]:=fun k I=>by
  subst H
  have:k=0\/k=1\/k=2\/k=3\/k=4\/k=5\/k=6\/k=7:=an
  rcases this with rfl|rfl|rfl|rfl|rfl|rfl|rfl|rfl<;>rfl
 have gM:∀ i,i<4->o[i]?=some [.int .u32 (pU.getD i ([],0)).2]:=fun i hi=>by
  subst e
  have:i=0\/i=1\/i=2\/i=3:=an
  rcases this with rfl|rfl|rfl|rfl<;>rfl
 have gR:∀ i,i<4->∃ R,l[i]?=some [.vs R .full]/\∀ k,k<8->R[k]?=some [.int .u32 ((zM.getD i []).getD k 0)]:=fun i hi=>by
  subst d
  have:i=0\/i=1\/i=2\/i=3:=an
  rcases this with rfl|rfl|rfl|rfl<;>refine⟨_,rfl,fun k I=>?_⟩<;>(have:k=0\/k=1\/k=2\/k=3\/k=4\/k=5\/k=6\/k=7:=by omega)<;>rcases this with rfl|rfl|rfl|rfl|rfl|rfl|rfl|rfl<;>rfl
 have lN:g.length=8:=by subst H;rfl
 have lM:o.length=4:=by subst e;rfl
 have lR:l.length=4:=by subst d;rfl
 rw[u,x,<-e] at W;rw[u,x];obtain⟨c,q⟩:∃ c:List (List UInt8×Int)->List (List V),∀ M,c M=M.map fun p=>[.int .u32 p.2]:=⟨_,fun _=>rfl⟩
 have J:∀ M,(c M).length=M.length:=fun M=>by rw[q];simp
 rw[<-q];simp;refine ax W ?_;simp
 refine aQ 4 (fun i=>[(0,.int .u32 a),(4,.vs g .full),(5,.int .u32 1000000),(6,.vs l .full),(8,.vs o .no),(9,.vs (cw ((S (8*i)).map (·.1))) (.own 0)),(10,.vs (c (S (8*i))) (.own 1)),(11,.int .i64 i)])
  (fun i=>[some (.zone (S (8*i)).length),some (.zone (S (8*i)).length)]) (fun _=>True) ?_ ?_
 ·simp[av,aj,Z,q,cw,H,d,B9,zM,CU,CV,Gp,CW,CX,Gq,CY,Gr]
 intro i hi _
 rcases aam hi with K|L
 ·subst K;simp
 have tO:((i:Int)<4)=True:=eq_true an;obtain⟨R,y,N⟩:=gR i L;have D:=gM i L;obtain⟨m,X⟩:∃ m,m=(pU.getD i ([],0)).2:=⟨_,rfl⟩;rw[<-X] at D;simp[tO]
 refine aQ 8 (fun k=>[(0,.int .u32 a),(4,.vs g .full),(5,.int .u32 1000000),(6,.vs l .full),(8,.vs o .no),(9,.vs (cw ((S (8*i+k)).map (·.1))) (.own 0)),(10,.vs (c (S (8*i+k))) (.own 1)),(11,.int .i64 i),(12,.int .i64 k)])
  (fun k=>[some (.zone (S (8*i+k)).length),some (.zone (S (8*i+k)).length)]) (fun _=>True) ?_ ?_
 ·simp[av,aj]
 intro k I _
 have a0:aE .i64 (i:Int) 1=((i+1:Nat):Int):=by rw[ey]<;>omega
 rcases aam I with K|s
 ·subst K
  have:8*(i+1)=8*i+8:=an
  simp[av,aj,a0,L,this,-aaa]
 have O:=N k s;have z:=gN k s;have b:=Y7 i k s;unfold rJ at b;rw[<-X] at b;obtain⟨v,hv⟩:∃ v,v=(zM.getD i []).getD k 0:=⟨_,rfl⟩;obtain⟨w,hw⟩:∃ w,w=B9.getD k []:=⟨_,rfl⟩;rw[<-hv] at O b;rw[<-hw] at z b
 have P:aE .i64 (k:Int) 1=((k+1:Nat):Int):=by rw[ey]<;>omega
 have Q:((k:Int)<8)=True:=eq_true an;have hl:=Y (8*i+k);generalize S (8*i+k)=T at *
 have BZ:(T.length+1)*16<=140737488355328:=an
 have xG:(T.length+1)*4<=140737488355328:=an
 have rT:=zv4 (T.map (·.1))
 have uY:(∀ f∈c T,f.length=1)=True:=by rw[q];exact zF9 (fun p:List UInt8×Int=>V.int .u32 p.2) T
 obtain⟨A,E⟩:∃ A,A=T++[(w,v)]:=⟨_,rfl⟩
 have vd:A.length=T.length+1:=by simp[E]
 have Cf:cw (T.map (·.1))++[[.str w]]=cw (A.map (·.1)):=by simp[cw,E]
 have Cg:c T++[[.int .u32 v]]=c A:=by rw[q,q];simp[E]
 have U:8*i+(k+1)=8*i+k+1:=rfl
 cases B:(m==(a:Int)) with
 | false =>
  rw[if_neg (by rintro⟨h,_⟩;simp[h] at B)] at b
  simp[Q,D,B,P,s,U,b,av,aj,-aaa]
 | true =>
  cases C:(v !=1000000) with
  | false =>
   rw[if_neg (by rintro⟨_,h⟩;simp at C;exact h C)] at b
   simp[Q,D,B,y,O,C,P,s,U,b,av,aj,-aaa]
  | true =>
   rw[if_pos ⟨by simpa using B,by simpa using C⟩] at b;simp only[abO,<-E] at b;simp[Q,D,B,y,O,z,C,P,s,U,b,BZ,xG,rT,uY,J,vd,Cf,Cg,av,aj,-aaa]
def ztT(a:Nat):(oU a).length<=100:=by have:=zv9 a 32;rw[zv8] at this;omega
def zD4[eD G][dy G](a n:Nat)(b:n<4294967296):FP G 494 [.int .u32 a,.int .u32 n] (.str (cY (oU a) n)):=by refine bD eD.afV (aab rfl) ?_;have w:=zqq (G:=G) (EG a) (ztT a) n b;have q:=ztS (G:=G) a;simp only[NV,KV] at w q;simp;refine ax q ?_;simp;refine ax w ?_;simp
def zwa[eD G][dy G][ij G](a:Nat)(s:List UInt8)(b:s.length<=1000000):FP G 495 [.int .u32 a,.str s] (.a_ [.int .u32 ((oV (oU a) s).getD 0:Nat),.bool (oV (oU a) s).isSome]):=by refine bD eD.afW (aab rfl) ?_;have w:=zv7 (G:=G) (EG a) (ztT a) s b;have q:=ztS (G:=G) a;simp only[NV,KV] at w q;simp;refine ax q ?_;simp;refine ax w ?_;simp
def vU:List Nat:=[0,196608,2147221504,2147418112]
def ztU{v:Nat}{s:List UInt8}(h:jD v=s)(a:s≠[]):eP s=some v:=by
 unfold jD at h;split at h
 ·rename_i b;rw[<-h];exact Gv b
 ·exact absurd h.symm a
def zGa(v:Nat):iT v≠[]:=by
 unfold iT;split
 ·simp[kI]
 ·rename_i h;exact h
def zx6{v:Nat}{s:List UInt8}(h:eP s=some v):jD v=s:=by rw[jD,if_pos (BS h).1,(BS h).2]
def zD5{s:List UInt8}(a:∀ v,eP s=some v->v∉vU)(d:∀ j<4096,6<s.length->jD (327680+j)≠s):eP s=none:=by
 cases h:eP s with
 | none=>rfl
 | some v =>
  obtain⟨e,f⟩:=BS h;have a:=a v h;have g:=e;simp only[eg,decide_eq_true_eq] at g;simp only[vU,aaE,aaZ,or_false] at a;obtain⟨k,i⟩:∃ k,v=327680+k:=⟨v-327680,an⟩
  have l:k<=4095:=an
  subst i
  have b:6<s.length:=by have m:=zqh l;have c:=(BS m).2;rw[f] at c;rw[c];have:=aa2.2 (zvN k);simp[kI];omega
  exact absurd (zx6 h) (d k an b)
def zmf[eD G][dy G][jO G](s:List UInt8)(L:s.length<=1000000):FP G 496 [.str s] (.a_ [.int .u32 ((eP s).getD 0:Nat),.bool (eP s).isSome]):=by
 refine bD eD.afX (aab rfl) ?_;obtain⟨b,m⟩:∃ b:Nat,b=327680:=⟨_,rfl⟩;obtain⟨e,o⟩:∃ e:List (List V),e=vU.map fun n=>[.int .u32 (n:Nat)]:=⟨_,rfl⟩
 have C:∀ i,i<4->e[i]?=some [.int .u32 (vU.getD i 0:Nat)]/\vU.getD i 0<4294967296/\vU.getD i 0∈vU/\eg (vU.getD i 0)=true:=fun i hi=>by
  subst o
  have:i=0\/i=1\/i=2\/i=3:=an
  rcases this with rfl|rfl|rfl|rfl<;>exact⟨rfl,by decide,by decide,by decide⟩
 have M:e.length=4:=by subst o;rfl
 simp;refine aQ 4 (fun i=>[(0,.str s),(4,.vs e .full),(5,.int .i64 i)]) (fun _=>[]) (fun i=>∀ j<i,jD (vU.getD j 0)≠s) ?_ ?_
 ·simp[av,aj,o,vU]
 intro i hi f
 rcases aam hi with a|x
 ·subst a
  have p:∀ v,eP s=some v->v∉vU:=by
   intro v c y;have:=zx6 c;simp only[vU,aaE,aaZ,or_false] at y
   rcases y with rfl|rfl|rfl|rfl
   ·exact f 0 (by decide) (by rw[show vU.getD 0 0=0 by decide];exact this)
   ·exact f 1 (by decide) (by rw[show vU.getD 1 0=196608 by decide];exact this)
   ·exact f 2 (by decide) (by rw[show vU.getD 2 0=2147221504 by decide];exact this)
   ·exact f 3 (by decide) (by rw[show vU.getD 3 0=2147418112 by decide];exact this)
  simp;obtain⟨N,O⟩:∃ N,N=4096:=⟨_,rfl⟩;refine aQ N (fun i=>[(0,.str s),(6,.int .u32 i)]) (fun _=>[]) (fun i=>∀ j<i,6<s.length->jD (b+j)≠s) ?_ ?_
  ·simp[av,aj]
  intro n D z
  rcases aam D with a|E
  ·subst a;have F:((n:Int)<4096)=False:=eq_false an;have:eP s=none:=zD5 p (fun j g=>by rw[<-m];exact z j an);rw[this];simp[F]
  ·have d:((n:Int)<4096)=True:=eq_true an;have A:(n<N)=True:=eq_true E
   have q:aE .u32 327680 (n:Int)=((b+n:Nat):Int):=by unfold aE;rw[show(327680:Int)+(n:Int)=((b+n:Nat):Int) by omega];exact IntWalk.u32_in _ ⟨an,an⟩
   have B:aE .u32 (n:Int) 1=((n+1:Nat):Int):=by unfold aE;rw[show(n:Int)+1=((n+1:Nat):Int) by omega];exact IntWalk.u32_in _ ⟨an,an⟩
   have k:=zng (G:=G) (b+n) an
   by_cases r:6<s.length
   ·have l:(6<(s.length:Int))=True:=eq_true an
    by_cases a:jD (b+n)=s
    ·have c:=ztU a (by intro h;rw[h] at r;simp at r);rw[c];simp[d,l,q,-aaa];refine ax k ?_;simp[a,q,-aaa]
    ·have t:(jD (b+n)==s)=false:=by simpa using a
     simp[d,l,q,-aaa];refine ax k ?_;simp[t,B,av,aj,A,-aaa];intro j g u
     rcases aam (aaX g) with h|h
     ·rw[h];exact a
     ·exact z j h u
   ·have l:(6<(s.length:Int))=False:=eq_false an;simp[d,l,B,av,aj,A,-aaa];intro j g u;exact absurd u r
 ·obtain⟨w,H,P,I⟩:=C i x;have d:((i:Int)<4)=True:=eq_true an
  have J:aE .i64 (i:Int) 1=((i+1:Nat):Int):=by rw[ey]<;>omega
  generalize c:vU.getD i 0=v at *;have k:=zng (G:=G) v H
  by_cases a:jD v=s
  ·have K:s≠[]:=by rw[<-a,jD,if_pos I];exact zGa v
   rw[ztU a K];simp[d,w];refine ax k ?_;simp[a,w]
  ·have t:(jD v==s)=false:=by simpa using a
   simp[d,w];refine ax k ?_;simp[t,J,x,av,aj,-aaa];intro j g
   rcases aam (aaX g) with h|h
   ·rw[aan] at c;rw[h,c];exact a
   ·exact f j h
def PX:List (List UInt8):=[[101,113],[110,101],[108,116],[108,101],[103,116],[103,101]]
def ztV[fk G]:FP G 497 [] (.vs (cw PX) .no):=by refine bD fk.afY (aab rfl) ?_;simp[cw,PX]
def ztW{k:Nat}(h:k<6):(cw PX)[k]?=some [.str (iU k)]:=by
 have:k=0\/k=1\/k=2\/k=3\/k=4\/k=5:=an
 rcases this with rfl|rfl|rfl|rfl|rfl|rfl<;>rfl
def ztX[fk G][dy G](c:Cd)(j:c.right=true)(e:c.ok):FP G 498 [.agg c.cs] (.str (aL (k8 c))):=by
 refine bD fk.afZ (aab rfl) ?_;simp only[Cd.right,decide_eq_true_eq] at j;obtain⟨a,f⟩:∃ a:Nat,c.arg=a:=⟨c.arg.toNat,an⟩;obtain⟨k,g⟩:∃ k:Nat,c.cmp=k:=⟨c.cmp.toNat,an⟩;obtain⟨d,i⟩:∃ d:List (List V),d=[[.str [48]],[.str [49]],[.str [50]],[.str [51]],[.str [52]],[.str [53]]]:=⟨_,rfl⟩
 have r:a<6:=an
 have l:d[a]?=some [.str [aaL (48+a)]]:=by
  subst i
  have:a=0\/a=1\/a=2\/a=3\/a=4\/a=5:=an
  rcases this with rfl|rfl|rfl|rfl|rfl|rfl<;>rfl
 have m:=LJ (G:=G) c.mask e.1;have o:=LJ (G:=G) c.val e.2;have w:=ztV (G:=G);have p:=ztW (k:=k) an;have s:=I2 c.mask;have t:=I2 c.val
 have u:(iU k).length<=2:=by unfold iU;repeat' (first|split|exact aaF _)
 have q:aL (k8 c)=97::aaL (48+a)::32::(br c.mask++32::(iU k++32::br c.val)):=by rw[k8,f,g];simp[aL]
 rw[q];simp only[Cd.cs,f,g];generalize br c.mask=M at *;generalize br c.val=U at *;generalize iU (k:Int)=W at *;generalize cw PX=WW at *;simp;rw[<-i];have b:∀ n:Nat,n<=400->(n<=9223372036854775807)=True:=fun n h=>eq_true an;simp(disch:=(first|omega|(simp;omega))) [l,b];refine ax m ?_;simp(disch:=(first|omega|(simp;omega))) [b];refine ax w ?_;simp(disch:=(first|omega|(simp;omega))) [p,b]
 refine ax o ?_;simp(disch:=(first|omega|(simp;omega))) [b]
def Uc[fk G](s:List UInt8)(o:Nat)(C:s.length<=1000000)(t:o<=1000001):∃ o',FP G 499 [.str s,.int .i64 o] (.a_ [.str (fR 32 (s.drop o)),.int .i64 (o':Nat)])/\s.drop o'=iz 32 (s.drop o)/\o'<=1000001:=by
 by_cases h:s.length<=o
 ·refine⟨o,?_,?_,t⟩
  ·refine bD fk.af0 (aab rfl) ?_;have hd:s.drop o=[]:=aaQ h;have u:((o:Int)<(s.length:Int))=False:=eq_false an;have d:((s.length:Int)<=(o:Int))=True:=eq_true an;rw[hd];simp;refine aQ 0 (fun i=>[(0,.str s),(1,.int .i64 o),(6,.int .i64 o)]) (fun _=>[]) (fun _=>True) ?_ ?_
   ·simp[av,aj]
   intro i hi _;simp[u,d,fR]
  ·have hd:s.drop o=[]:=aaQ h;rw[hd];rfl
 ·obtain⟨l,f,m,j,v⟩:=EJ 32 (s.drop o);obtain⟨w,n⟩:∃ w,w=fR 32 (s.drop o):=⟨_,rfl⟩
  have x:iz 32 (s.drop o)=s.drop (o+w.length+1):=by rw[n];unfold iz;rw[abn];congr 1
  rw[x];rw[<-n] at l f m j v |-
  have y:(s.drop o).length=s.length-o:=by simp
  rw[y] at l j;refine⟨o+w.length+1,?_,rfl,an⟩;refine bD fk.af0 (aab rfl) ?_;simp;refine aQ w.length (fun i=>[(0,.str s),(1,.int .i64 o),(6,.int .i64 (o+i:Nat))]) (fun _=>[]) (fun _=>True) ?_ ?_
  ·simp[av,aj]
  intro i hi _
  rcases aam hi with z|p
  ·subst z;have d:((s.length:Int)<=(o:Int))=False:=eq_false an;have q:((o:Int)<=((o+w.length:Nat):Int))=True:=eq_true an;have r:(((o+w.length:Nat):Int)<=(s.length:Int))=True:=eq_true an
   have g:aE .i64 ((o+w.length:Nat):Int) 1=((o+w.length+1:Nat):Int):=by rw[ey]<;>omega
   have D:(s.drop o).take (o+w.length-o)=w:=by rw[show o+w.length-o=w.length by omega];exact f
   by_cases a:o+w.length<s.length
   ·have c:=j an;rw[aaW] at c;obtain⟨_,k⟩:=aad.1 c;simp[a,k,d,q,r,g,-aaa];exact⟨f,an⟩
   ·simp[a,d,q,r,g,-aaa];exact⟨f,an⟩
  ·have a:o+i<s.length:=an
   obtain⟨b,c⟩:∃ b,s[o+i]?=some b:=⟨_,aae a⟩;obtain⟨_,k⟩:=aad.1 c
   have A:b≠32:=by have:=m i p;rw[aaW,c] at this;simpa using this
   have B:((b.toNat:Int) !=32)=true:=by have:b.toNat≠32:=fun e=>A (abH.1 e);simp;omega
   have g:aE .i64 ((o+i:Nat):Int) 1=((o+(i+1):Nat):Int):=by rw[ey]<;>omega
   simp[a,k,B,g,p,av,aj,-aaa]
def zBG[fk G][dy G][ij G](s:List UInt8)(z:s.length<=1000000):FP G 500 [.str s] (.a_ [.agg ((d_ s).getD ⟨0,0,0,0⟩).cs,.bool (d_ s).isSome]):=by
 refine bD fk.af1 (aab rfl) ?_;obtain⟨l,p0,A,l1⟩:=Uc (G:=G) s 0 z an;obtain⟨U,p1,I,l2⟩:=Uc (G:=G) s l z l1;obtain⟨o,p2,W,l3⟩:=Uc (G:=G) s U z l2;obtain⟨o4,p3,d4,l4⟩:=Uc (G:=G) s o z l3;rw[abb] at A p0;have p:∀ t:List UInt8,(fR 32 t).length<=t.length:=fun t=>(EJ 32 t).1;have n1:=zoz (G:=G) (fR 32 (s.drop l)) (by have:=p (s.drop l);simp at this;omega);have X:=zoz (G:=G) (fR 32 (s.drop o)) (by have:=p (s.drop o);simp at this;omega)
 obtain⟨m,f⟩:∃ m,m=(dH (fR 32 (s.drop l))).getD 0:=⟨_,rfl⟩;obtain⟨v,g⟩:∃ v,v=(dH (fR 32 (s.drop o))).getD 0:=⟨_,rfl⟩
 have J:m<18446744073709551616:=by
  rw[f]
  cases h:dH (fR 32 (s.drop l)) with
  | none=>simp
  | some n=>exact(Aa h).1
 have K:v<18446744073709551616:=by
  rw[g]
  cases h:dH (fR 32 (s.drop o)) with
  | none=>simp
  | some n=>exact(Aa h).1
 rw[<-f] at n1;rw[<-g] at X;obtain⟨w,L⟩:∃ w,w=fR 32 (s.drop U):=⟨_,rfl⟩;rw[<-L] at p2
 have d:∀ c,d_ s=some c->∃ a k:Nat,a<6/\k<6/\c=⟨a,k,m,v⟩/\w=iU k:=by
  intro c hc;obtain⟨b,Y⟩:=Pa hc;have Z:=b.1;simp only[Cd.right,decide_eq_true_eq] at Z;have M:=fun x hx=>zsn (zm4 b.1 b.2 x hx);simp only[k8,aL] at Y M;simp only[aaE,aaZ,or_false,forall_eq_or_imp,forall_eq] at M;obtain⟨h0,B,C,q⟩:=M;have q0:=I9 (r:=br c.mask++32::(iU c.cmp++32::br c.val)) h0;have q1:=I9 (r:=iU c.cmp++32::br c.val) B;have q2:=I9 (r:=br c.val) C;have xX:fR 32 (br c.val)=br c.val:=zrk q
  rw[Y] at q0;rw[q0.2] at A;rw[A,q1.2] at I;rw[I,q2.2] at W;rw[A,q1.1,Tt b.2.1] at f;rw[W,xX,Tt b.2.2] at g;rw[I,q2.1] at L;simp only[aaK] at f g;refine⟨c.arg.toNat,c.cmp.toNat,an,an,?_,?_⟩
  ·cases c;simp only at f g Z |-;subst f;subst g
   congr 1<;>omega
  ·rw[L];congr 1;omega
 have dc:∀ a k:Nat,a<6->k<6->(⟨a,k,m,v⟩:Cd).dc:=fun a k ha u=>⟨by simp[Cd.right];omega,J,K⟩;have wd:=ztV (G:=G);simp;refine ax p0 ?_;simp;refine ax p1 ?_;simp;refine ax p2 ?_;simp;refine ax p3 ?_;simp;refine ax n1 ?_;simp;refine ax X ?_;simp;obtain⟨R,y⟩:∃ R,R=d_ s:=⟨_,rfl⟩;rw[<-y];have eV:∀ a k:Nat,[V.int .i64 a,.int .i64 k,.int .u64 m,.int .u64 v]=(⟨a,k,m,v⟩:Cd).cs:=fun _ _=>rfl
 refine aQ 6 (fun a=>[(0,.str s),(2,.ptr 0 0),(8,.str w),(12,.int .u64 m),(14,.int .u64 v),(16,.int .i64 a)]) (fun _=>[some (.cells [.int .i64 0,.int .i64 0,.int .u64 0,.int .u64 0])])
  (fun a=>∀ i k:Nat,i<a->k<6->R≠some ⟨i,k,m,v⟩) ?_ ?_
 ·simp[av,aj,aw.cl,aX,V.cl]
 intro a ha jj
 rcases aam ha with N|yQ
 ·subst N
  have hn:R=none:=by
   cases h:R with
   | none=>rfl
   | some c =>
    obtain⟨i,k,B,C,q,O⟩:=d c (by rw[<-y,h]);exact absurd (by rw[h,q]) (jj i k B C)
  rw[hn];simp[Cd.cs]
 have ca:((a:Int)<6)=True:=eq_true an
 have a0:aE .i64 (a:Int) 1=((a+1:Nat):Int):=by rw[ey]<;>omega
 simp[ca]
 refine aQ 6 (fun k=>[(0,.str s),(2,.ptr 0 0),(8,.str w),(12,.int .u64 m),(14,.int .u64 v),(16,.int .i64 a),(17,.int .i64 k)]) (fun _=>[some (.cells [.int .i64 0,.int .i64 0,.int .u64 0,.int .u64 0])])
  (fun k=>∀ j:Nat,j<k->R≠some ⟨a,j,m,v⟩) ?_ ?_
 ·simp[av,aj,aw.cl,aX,V.cl]
 intro k u Q5
 rcases aam u with N|D
 ·subst N;simp[a0,yQ,av,aj,aw.cl,aX,V.cl,-aaa];intro i k hi u
  rcases aam (aaX hi) with h|h
  ·rw[h];exact Q5 k u
  ·exact jj i k h u
 have ck:((k:Int)<6)=True:=eq_true an
 have k0:aE .i64 (k:Int) 1=((k+1:Nat):Int):=by rw[ey]<;>omega
 have P:=ztW D;have b:=dc a k yQ D;have E:=ztX (G:=G) ⟨a,k,m,v⟩ b.1 b.2;obtain⟨T,Q⟩:∃ T,T=aL (k8 ⟨a,k,m,v⟩):=⟨_,rfl⟩;rw[<-Q] at E
 have x9:R≠some ⟨a,k,m,v⟩->∀ j:Nat,j<k+1->R≠some ⟨a,j,m,v⟩:=by
  intro h j hj
  rcases aam (aaX hj) with e|e
  ·rw[e];exact h
  ·exact Q5 j e
 generalize cw PX=WW at *;simp only[Cd.cs] at E;simp[ck];refine ax wd ?_
 cases F:(w==iU k) with
 | false =>
  have S:R≠some ⟨a,k,m,v⟩:=by
   intro h;obtain⟨i,j,B,C,q,O⟩:=d _ (by rw[<-y,h]);simp only[Cd.mk.injEq] at q
   have:j=k:=an
   rw[this] at O;simp[O] at F
  simp[P,F,k0,D,av,aj,aw.cl,aX,V.cl,-aaa]
  exact x9 S
 | true =>
  cases H:(T==s) with
  | false =>
   have S:R≠some ⟨a,k,m,v⟩:=by intro h;have:=(Pa (y▸h)).2;rw[<-Q] at this;simp[this] at H
   simp[P,F];refine ax E ?_;simp[H,k0,D,av,aj,aw.cl,aX,V.cl,-aaa]
   exact x9 S
  | true =>
   have nG:R=some ⟨a,k,m,v⟩:=by rw[y];exact zvQ b (by rw[<-Q];simpa using H)
   rw[nG];simp[P,F];refine ax E ?_;simp[H,Cd.cs]
def zBH[fk G][dy G][eD G][jO G][gV G](r:Ru)(d:r.cJ):FP G 501 [.agg r.cs] (.str (aL (qD r))):=by
 refine bD gV.af2 (aab rfl) ?_;obtain⟨p,y,z,q,N⟩:=BV d;have s:=zng (G:=G) r.act (Lu q);rw[jD,if_pos q] at s;have B:=zwN (G:=G) r.aA y;have D:=zD4 (G:=G) r.aA r.nr z;have O:=Tq EF (v:=r.aA);have Q:=Tq (EG r.aA) (v:=r.nr);have R:=zvO (v:=r.act);have t:=zro r;obtain⟨T,e⟩:∃ T:Nat->List UInt8,∀ i,T i=CZ r i:=⟨_,fun _=>rfl⟩
 have E:∀ i,i<=r.conds.length->(T i).length<=80+50*i:=fun i hi=>by rw[e];exact ztI r i hi
 have F:∀ i c,r.conds[i]?=some c->T (i+1)=T i++(32::xE i++32::Lx c):=fun i c h=>by rw[e,e];exact zrp h
 have f:T r.conds.length=aL (qD r):=by rw[e];exact zBh r
 rw[<-f];rw[<-e] at t;generalize cY pU r.aA=M at *;generalize cY (oU r.aA) r.nr=C at *;generalize iT r.act=A at *
 have H:T 0=111::110::32::(M++32::(C++32::A)):=by rw[t];simp
 have a:∀ n:Nat,n<=400->(n<=9223372036854775807)=True:=fun n h=>eq_true an;simp only[Ru.cs];simp;refine ax B ?_;simp(disch:=(first|omega|(simp;omega))) [a];refine ax D ?_;simp(disch:=(first|omega|(simp;omega))) [a];refine ax s ?_;simp(disch:=(first|omega|(simp;omega))) [a];refine aQ r.conds.length (fun i=>[(1,.ptr 0 0),(3,.str (T i)),(4,.int .i64 i)]) (fun _=>[some (.cells r.cs)]) (fun _=>True) ?_ ?_
 ·simp[av,aj,H,Ru.cs]
 intro i hi _
 by_cases b:i<r.conds.length
 ·obtain⟨x,I⟩:∃ x,x=r.conds[i]:=⟨_,rfl⟩
  have d:r.conds[i]?=some x:=by rw[aae b,I]
  have u:=aah d;have g:=LN d
  have j:(CL r.conds)[i]'(by simpa using b)=x.cs:=by rw[aae (by simpa using b)] at g;exact Option.some.inj g
  have k:=ztX (G:=G) x (p x u).1 (p x u).2;have l:=F i x d;have S:=E i hi;have J:=ztH x
  have K:aE .i64 (i:Int) 1=((i+1:Nat):Int):=by rw[ey]<;>omega
  have L:((i:Int)<(r.conds.length:Int))=True:=eq_true an;rw[show Lx x=aL (k8 x) from rfl] at l J;simp only[Cd.cs] at k g j;generalize aL (k8 x)=P at *
  by_cases w:i=0
  ·subst w
   have m:T 0++32::105::102::32::P=T (0+1):=by rw[l];simp[xE]
   simp(disch:=(first|omega|(simp;omega))) [b,j,Ru.cs,a];refine ax k ?_;simp(disch:=(first|omega|(simp;omega))) [m,a,av,aj,b,show aE .i64 0 1=1 by decide,-aaa]
  ·have o:((i:Int)==0)=false:=by simp;omega
   have m:T i++32::97::110::100::32::P=T (i+1):=by rw[l];simp[xE,w]
   simp(disch:=(first|omega|(simp;omega))) [L,j,o,Ru.cs,a];refine ax k ?_;simp(disch:=(first|omega|(simp;omega))) [m,a,av,aj,K,b,-aaa]
 ·have:i=r.conds.length:=an
  subst this;simp[Ru.cs]
def zrD:∀(l:List Cd) (k:Nat),(iY k l).length=5*l.length
 | [],k=>rfl
 | c::l,k=>by
  simp only[iY,aaM,aaz,zrD l (k+1)];simp[k8];omega
def zpC:∀(j k:Nat) (l:List Cd),(iY k l).drop (5*j)=iY (k+j) (l.drop j)
 | 0,k,l=>rfl
 | j+1,k,[]=>by simp[iY]
 | j+1,k,c::l=>by
  rw[show 5*(j+1)=5*j+5 by omega];simp only[iY,k8,aa8,abD,aba];rw[zpC j (k+1) l]
  congr 1;omega
def zni{s:List UInt8}{y:Ru}(h:tu s=some y):y.cJ/\∃ M C A,gD 32 s=[111,110]::M::C::A::iY 0 y.conds/\oV pU M=some y.aA/\oV (oU y.aA) C=some y.nr/\eP A=some y.act:=by obtain⟨a,b⟩:=TK h;obtain⟨f,c,d,e,g⟩:=BV a;exact⟨a,_,_,_,b.symm,Lt EF c,Lt (EG _) d,Gv e⟩
def zBI{s:List UInt8}{y:Ru}(h:tu s=some y){j:Nat}(f:j<y.conds.length){a b c d:List UInt8}{r:List (List UInt8)}(e:(gD 32 s).drop (4+5*j+1)=a::b::c::d::r) :
  d_ (aL [a,b,c,d])=some y.conds[j]:=by
 obtain⟨g,M,C,A,i,_⟩:=zni h;rw[i,show 4+5*j+1=(5*j+1)+4 by omega] at e;simp only[aba] at e;rw[<-abn,zpC,aaH f] at e;simp only[iY,aa8,aba,abb] at e;have k:=(BV g).1 _ (aaV f)
 have:[a,b,c,d]=k8 y.conds[j]:=by have:=congrArg (List.take 4) e;simpa[k8] using this.symm
 rw[this];exact zm7 k
def zBJ[jE G][fk G][dy G][ij G][eD G][jO G][gV G](s:List UInt8)(hs:s.length<=20000):FP G 502 [.str s] (.a_ [.agg ((tu s).getD ⟨0,0,[],0⟩).cs,.bool (tu s).isSome]):=by
 refine bD gV.af3 (aab rfl) ?_;have Z:=zv6 (G:=G) s 32 an;rw[show((abm 32:Nat):Int)=32 from rfl] at Z;obtain⟨w,t⟩:∃ w,w=gD 32 s:=⟨_,rfl⟩;obtain⟨R,H⟩:∃ R,R=tu s:=⟨_,rfl⟩
 have B_:aL w=s:=by rw[t];exact TI s
 have hp:∀ x∈w,gC x:=by rw[t];exact TJ s
 have u:∀ x∈w,x.length<=20000:=by
  intro x m
  have:∀(l:List (List UInt8)),x∈l->x.length<=(aL l).length:=by
   intro l
   induction l with
   | nil=>simp
   | cons v l ih =>
    intro h
    rcases aaE.1 h with rfl|h
    ·exact EK (x::l)
    ·have:=ih h;have:=zlU v l;omega
  have:=this w m;rw[B_] at this;omega
 have hb:=zou w;rw[B_] at hb;rw[<-t] at Z;rw[<-H]
 have e:∀ y,R=some y->4<=w.length/\w.length<=24/\(w.length-4)%5=0/\w.length=4+5*y.conds.length:=by intro y p;obtain⟨hg,M,C,A,O,_⟩:=zni (H▸p);have h4:=(BV hg).2.2.2.2;rw[t,O];simp only[aaM,zrD];omega
 simp;refine ax Z ?_;have zero:V.a_ [.agg [.int .u32 0,.int .u32 0,.vs [] .no,.int .u32 0],.bool false]=.a_ [.agg ((none:Option Ru).getD ⟨0,0,[],0⟩).cs,.bool (none:Option Ru).isSome]:=rfl
 by_cases c1:w.length<4
 ·have k:R=none:=by
   cases h:R with
   | none=>rfl
   | some y=>have:=e y h;omega
  have P:((w.length:Int)<4)=True:=eq_true an;rw[k,<-zero];simp[P]
 have P:((w.length:Int)<4)=False:=eq_false an
 by_cases c2:24<w.length
 ·have k:R=none:=by
   cases h:R with
   | none=>rfl
   | some y=>have:=e y h;omega
  have Ue:(24<(w.length:Int))=True:=eq_true an;rw[k,<-zero];simp[P,Ue]
 have Ue:(24<(w.length:Int))=False:=eq_false an
 have e1:c_ .i64 (w.length:Int) 4=((w.length-4:Nat):Int):=by rw[oW an an];omega
 have e2:mV ((w.length-4:Nat):Int) 5=(((w.length-4)%5:Nat):Int):=Cl (b:=5)
 by_cases c3:(w.length-4)%5=0
 rotate_left
 ·have k:R=none:=by
   cases h:R with
   | none=>rfl
   | some y=>have:=e y h;omega
  have Pb:((((w.length-4)%5:Nat):Int) !=0)=true:=by simp;omega
  rw[k,<-zero];simp[P,Ue,e1,e2,Pb,-aaB]
 have Pb:((((w.length-4)%5:Nat):Int) !=0)=false:=by simp;omega
 obtain⟨N,hN⟩:∃ N,w.length=4+5*N:=⟨(w.length-4)/5,an⟩
 have hq:N<=4:=an
 obtain⟨w0,M,C,A,WR,z⟩:∃ w0 M C A WR,w=w0::M::C::A::WR:=by
  match w,c1 with
  | a::b::c::d::r,_=>exact⟨a,b,c,d,r,rfl⟩
  | [],h=>simp at h
  | [_],h=>simp at h
  | [_,_],h=>simp at h
  | [_,_,_],h=>simp at h
 have pM:=zrB (G:=G) M (by have:=u M (by rw[z];simp);omega);obtain⟨a,B⟩:∃ a,a=(oV pU M).getD 0:=⟨_,rfl⟩;have pC:=zwa (G:=G) a C (by have:=u C (by rw[z];simp);omega);obtain⟨n,k⟩:∃ n,n=(oV (oU a) C).getD 0:=⟨_,rfl⟩;have pA:=zmf (G:=G) A (by have:=u A (by rw[z];simp);omega);obtain⟨v,hv⟩:∃ v,v=(eP A).getD 0:=⟨_,rfl⟩;rw[<-B] at pM;rw[<-k] at pC;rw[<-hv] at pA;have g1:(cw w)[1]?=some [.str M]:=C8 (by rw[z];rfl)
 have g2:(cw w)[2]?=some [.str C]:=C8 (by rw[z];rfl);have g3:(cw w)[3]?=some [.str A]:=C8 (by rw[z];rfl)
 have g:∀ y,R=some y->oV pU M=some y.aA/\oV (oU y.aA) C=some y.nr/\eP A=some y.act/\y.cJ/\qD y=w/\y.conds.length=N:=by intro y p;obtain⟨hg,M',C',A',O,I,E,J⟩:=zni (H▸p);have hl:=(e y p).2.2.2;rw[<-t,z] at O;simp only[ab0.injEq] at O;obtain⟨_,rfl,rfl,rfl,_⟩:=O;exact⟨I,E,J,hg,by rw[t];exact(TK (H▸p)).2,an⟩
 obtain⟨q,K⟩:∃ q,q=cw w:=⟨_,rfl⟩
 have Q:q.length=w.length:=by rw[K];simp
 rw[<-K] at Z g1 g2 g3 |-;simp[P,Ue,e1,e2,Pb,Q,g1,-aaB];refine ax pM ?_;simp[g2];refine ax pC ?_;simp[g3];refine ax pA ?_;obtain⟨b1,jy⟩:∃ b1,b1=(oV pU M).isSome:=⟨_,rfl⟩;obtain⟨b2,iW⟩:∃ b2,b2=(oV (oU a) C).isSome:=⟨_,rfl⟩;obtain⟨b3,tj⟩:∃ b3,b3=(eP A).isSome:=⟨_,rfl⟩;rw[<-jy,<-iW,<-tj]
 by_cases aY:b1=true/\b2=true/\b3=true
 rotate_left
 ·have k:R=none:=by
   cases h:R with
   | none=>rfl
   | some y =>
    obtain⟨I,E,J,_⟩:=g y h;rw[I] at B jy;simp only[aaK] at B;rw[<-B] at E;rw[E] at iW;rw[J] at tj;exact absurd ⟨jy,iW,tj⟩ aY
  rw[k,<-zero]
  cases b1<;>cases b2<;>cases b3<;>first|(exact absurd ⟨rfl,rfl,rfl⟩ aY)|simp
 obtain⟨rfl,rfl,rfl⟩:=aY;obtain⟨a',ow⟩:=aa4.1 jy.symm;rw[ow] at B;simp only[aaK] at B;subst B;obtain⟨n',zU⟩:=aa4.1 iW.symm;rw[zU] at k;simp only[aaK] at k;subst k;obtain⟨v',Cw⟩:=aa4.1 tj.symm;rw[Cw] at hv;simp only[aaK] at hv;subst hv;have U:=(BS Cw).1;simp
 refine wu (S:=List Cd) (fun cs=>N-cs.length) (fun cs=>[(0,.str s),(2,.ptr 0 0),(4,.vs q .no),(5,.ptr 1 0),(12,.int .i64 (4+5*cs.length:Nat))])
  (fun cs=>[some (.cells [.int .u32 0,.int .u32 0,.vs [] .full,.int .u32 0]),some (.cells [.int .u32 a,.int .u32 n,.vs (CL cs) (.own 2),.int .u32 v]),some (.zone cs.length)])
  (fun cs=>cs.length<=N/\(∀ c∈cs,c.dc)/\∀ y,R=some y->y.conds.take cs.length=cs) [] ?_ ?_
 ·refine⟨⟨abc _,ir,fun y _=>by simp⟩,?_,?_⟩
  ·simp[av]
  ·simp[aj,aw.cl,aX,V.cl,Tk.cl,CL]
 rintro cs ⟨p1,p2,p3⟩
 by_cases ai:cs.length<N
 ·have hL:((4+5*cs.length:Nat):Int)<(w.length:Int):=an
  obtain⟨o,ho⟩:∃ o,o=4+5*cs.length:=⟨_,rfl⟩
  obtain⟨x1,x2,x3,x4,xr,m⟩:∃ x1 x2 x3 x4 xr,w.drop (o+1)=x1::x2::x3::x4::xr:=by
   have hl:4<=(w.drop (o+1)).length:=by simp;omega
   match w.drop (o+1),hl with
   | a::b::c::d::r,_=>exact⟨a,b,c,d,r,rfl⟩
  have gx:∀ i x,(x1::x2::x3::x4::xr)[i]?=some x->w[o+1+i]?=some x:=fun i x h=>by rw[<-aaW,m];exact h
  have y1:=gx 0 x1 rfl;have y2:=gx 1 x2 rfl;have y3:=gx 2 x3 rfl;have y4:=gx 3 x4 rfl;have k1:=u x1 (aah y1);have k2:=u x2 (aah y2);have k3:=u x3 (aah y3);have k4:=u x4 (aah y4)
  have z1:q[o+1]?=some [.str x1]:=by rw[K];exact C8 y1
  have z2:q[o+2]?=some [.str x2]:=by rw[K];exact C8 y2
  have z3:q[o+3]?=some [.str x3]:=by rw[K];exact C8 y3
  have z4:q[o+4]?=some [.str x4]:=by rw[K];exact C8 y4
  have q1:=(aad.1 z1).2;have q2:=(aad.1 z2).2;have q3:=(aad.1 z3).2;have q4:=(aad.1 z4).2
  have i1:aE .i64 (o:Int) 1=((o+1:Nat):Int):=by rw[ey]<;>omega
  have i2:aE .i64 (o:Int) 2=((o+2:Nat):Int):=by rw[ey]<;>omega
  have i3:aE .i64 (o:Int) 3=((o+3:Nat):Int):=by rw[ey]<;>omega
  have i4:aE .i64 (o:Int) 4=((o+4:Nat):Int):=by rw[ey]<;>omega
  have i5:aE .i64 (o:Int) 5=((o+5:Nat):Int):=by rw[ey]<;>omega
  have wi:aL [x1,x2,x3,x4]=x1++32::(x2++32::(x3++32::x4)):=by simp[aL]
  have F:=zBG (G:=G) (aL [x1,x2,x3,x4]) (by rw[wi];simp;omega);rw[wi] at F
  have G0:∀ y,R=some y->d_ (x1++32::(x2++32::(x3++32::x4)))=y.conds[cs.length]?:=by intro y p;have hh:=(g y p).2.2.2.2.2;have:=zBI (H▸p) (j:=cs.length) an (r:=xr) (a:=x1) (b:=x2) (c:=x3) (d:=x4) (by rw[<-t,<-ho];exact m);rw[wi] at this;rw[this,aae an]
  obtain⟨D,hD⟩:∃ D,D=d_ (x1++32::(x2++32::(x3++32::x4))):=⟨_,rfl⟩;rw[<-hD] at F G0;rw[<-ho] at hL |-;have W:((o:Int)<(w.length:Int))=True:=eq_true hL;have s1:(x1.length+1<=9223372036854775807)=True:=eq_true an;have b9:∀ n:Nat,n<=100000->(n<=9223372036854775807)=True:=fun n h=>eq_true an
  have l1:((o+1:Nat):Int)<(w.length:Int):=an
  have jI:((cs.length+1)*32<=140737488355328)=True:=eq_true an;have Gw:(∀ f∈CL cs,f.length=4)=True:=eq_true (by intro f hf;simp only[CL,aaI] at hf;obtain⟨y,_,rfl⟩:=hf;rfl)
  cases X:D with
  | none =>
   have k:R=none:=by
    cases h:R with
    | none=>rfl
    | some y =>
     have:=G0 y h;have hh:=(g y h).2.2.2.2.2;rw[X,aae an] at this;cases this
   rw[X] at F;rw[k,<-zero];simp(disch:=(first|omega|(simp;omega))) [W,Q,q1,q2,q3,q4,i1,i2,i3,i4,b9,-aaa];refine ax F ?_
   simp[Cd.cs]
  | some c =>
   have eE:CL cs++[c.cs]=CL (cs++[c]):=by simp[CL]
   rw[X] at F;simp only[aaK,Cd.cs,abx] at F eE;simp(disch:=(first|omega|(simp;omega))) [W,Q,q1,q2,q3,q4,i1,i2,i3,i4,b9,-aaa];refine ax F ?_;simp(disch:=(first|omega|(simp;omega))) [jI,Gw,eE,i5,-aaa];refine⟨cs++[c],?_,⟨by simp;omega,?_,?_⟩,?_,?_⟩
   ·simp;omega
   ·intro x m
    rcases aaG.1 m with m|m
    ·exact p2 x m
    ·rw[aaT.1 m];exact(Pa (hD▸X)).1
   ·intro y p;have h1:=G0 y p;rw[X] at h1;rw[aaz,List.length_singleton,aat,p3 y p,<-h1];rfl
   ·have e5:o+5=4+5*(cs.length+1):=an
    simp[av,e5,-aaa,-aav]
   ·simp[aj,aw.cl,aX,V.cl,Tk.cl]
 ·have hj:cs.length=N:=an
  have W:(((4+5*cs.length:Nat):Int)<(w.length:Int))=False:=eq_false an
  have hk:cs.length<=4:=an
  have m:(⟨a,n,cs,v⟩:Ru).cJ:=by refine⟨?_,fun c L=>(p2 c L).2,(Tu ow).1,(Tu zU).1,Lu U⟩;simp only[jh,aal,decide_eq_true_eq,aaJ];exact⟨⟨fun c L=>(p2 c L).1,U⟩,hk⟩
  have pL:=zBH (G:=G) ⟨a,n,cs,v⟩ m;obtain⟨T,hT⟩:∃ T,T=aL (qD ⟨a,n,cs,v⟩):=⟨_,rfl⟩;rw[<-hT] at pL;simp only[Ru.cs] at pL
  cases Y:(T==s) with
  | true =>
   have hr:R=some ⟨a,n,cs,v⟩:=by
    rw[H];refine zqj m ?_
    have:aL (qD ⟨a,n,cs,v⟩)=s:=by rw[<-hT];simpa using Y
    rw[<-this,zDz (zDA _) (zy1 m)]
   rw[hr];simp[W,Q,-aaa];refine ax pL ?_
   simp[Y,Ru.cs]
  | false =>
   have k:R=none:=by
    cases h:R with
    | none=>rfl
    | some y =>
     obtain⟨I,E,J,hg,hm,hl⟩:=g y h;have L:=p3 y h;rw[hj,<-hl,aaA] at L;rw[ow] at I;cases I;rw[zU] at E;cases E;rw[Cw] at J;cases J
     have:aL (qD y)=s:=by rw[hm,B_]
     rw[<-L] at hT;rw[hT,this] at Y;simp at Y
   rw[k,<-zero];simp[W,Q,-aaa];refine ax pL ?_;simp[Y]
def uA:List (List UInt8)->Nat
 | []=>0
 | w::r=>w.length+1+uA r
def P_(m:UInt8):∀ s,uA (gD m s)=s.length+1
 | []=>rfl
 | b::s=>by
  have a:=P_ m s;unfold gD;split
  ·simp only[uA,a,abF,aaM];omega
  ·cases h:gD m s with
   | nil=>exact absurd h (Ad m s)
   | cons w r =>
    rw[h] at a;simp only[uA,aaM] at a |-;omega
def zrE[jE G][fk G][dy G][ij G][eD G][jO G][gV G](S:List UInt8)(ha:S.length<=20000):FP G 503 [.str S] (pj (dQ S)):=by
 refine bD gV.af4 (aab rfl) ?_;have R:(20000<(S.length:Int))=False:=eq_false an;obtain⟨T,BW⟩:∃ r,r=dQ S:=⟨_,rfl⟩;rw[<-BW];have J:=zv6 (G:=G) S 10 an;rw[show((abm 10:Nat):Int)=10 from rfl] at J;obtain⟨L,hL⟩:∃ L,L=gD 10 S:=⟨_,rfl⟩;have GK:=P_ 10 S;have aB:=Ad 10 S;rw[<-hL] at J GK aB;obtain⟨A,m⟩:∃ A,A=cw L:=⟨_,rfl⟩
 have n:A.length=L.length:=by rw[m];simp
 rw[<-m] at J;have h0:0<L.length:=aa2.2 aB
 have zr:∀ l:List (List UInt8),l.length<=uA l:=fun l=>by
  induction l with
  | nil=>simp
  | cons w l ih=>simp only[uA,aaM];omega
 have hb:=zr L;simp[R];refine ax J ?_;simp
 refine wu (S:=Nat×Nat×List Ru×Option Nat) (fun q=>L.length-q.1) (fun q=>[(0,.str S),(2,.ptr 0 0),(5,.ptr 1 0),(6,.vs A .no),(7,.int .i64 (q.2.1:Nat)),(8,.bool q.2.2.2.isSome),(9,.int .i64 (q.1:Nat))])
  (fun q=>[some (.cells [.vs [] .full,.int .u32 0]),some (.cells [.vs (RL q.2.2.1) (.own 2),.int .u32 (q.2.2.2.getD 0:Nat)]),some (.zone q.2.2.1.length)])
  (fun q=>q.1<L.length/\q.2.2.1.length<=64/\q.2.1+uA (L.drop q.1)=S.length+1/\rX q.2.1 q.2.2.1 q.2.2.2 (L.drop q.1)=T) (0,0,[],none) ?_ ?_
 ·refine⟨⟨h0,ir,by simpa using GK,by rw[BW,hL];rfl⟩,?_,?_⟩
  ·simp[av]
  ·simp[aj,aw.cl,aX,V.cl,Tk.cl,RL]
 rintro⟨i,o,rs,dn⟩ ⟨p1,p2,p3,p4⟩;simp only at p1 p2 p3 p4 |-;obtain⟨w,hw⟩:∃ w,w=L[i]:=⟨_,rfl⟩
 have P9:L[i]?=some w:=by rw[aae p1,hw]
 have g:A[i]?=some [.str w]:=by rw[m];exact C8 P9
 rw[aaH p1,<-hw] at p3 p4;simp only[uA] at p3;have p:((i:Int)<(L.length:Int))=True:=eq_true an
 have s:c_ .i64 (L.length:Int) 1=((L.length-1:Nat):Int):=by rw[oW an an];omega
 have i3:aE .i64 (i:Int) 1=((i+1:Nat):Int):=by rw[ey]<;>omega
 have wl:w.length<=20000:=an
 have c:∀ k:Nat,T=(mz,o,k)->pj T=.a_ [.agg [.vs [] .no,.int .u32 0],.int .i64 o,.int .i64 k]:=fun k h=>by rw[h];rfl
 by_cases xX:i+1=L.length
 ·have W:L.drop (i+1)=[]:=aaQ an;rw[W] at p3 p4;simp only[uA,rX,if_true] at p3 p4
  have j:((i:Int)==((L.length-1:Nat):Int))=true:=by simp;omega
  by_cases B:w=[]
  ·rw[if_pos B] at p4
   have K:(w==[])=true:=by simpa using B
   have ho:o=S.length:=by rw[B] at p3;simp at p3;omega
   cases dn with
   | none =>
    simp only at p4;rw[c 5 p4.symm,ho]
    simp[n,p,s,j,g,K]
   | some v =>
    simp only at p4;rw[<-p4];simp[n,p,s,j,g,K,pj,Po.cs]
  ·rw[if_neg B] at p4
   have K:(w==[])=false:=by simpa using B
   rw[c 2 p4.symm];simp[n,p,s,j,g,K]
 have W:L.drop (i+1)≠[]:=by intro h;have:=congrArg abZ h;simp at this;omega
 have j:((i:Int)==((L.length-1:Nat):Int))=false:=by simp;omega
 simp only[rX,if_neg W] at p4
 cases FJ:dn with
 | some v =>
  rw[FJ] at p4;simp only at p4;rw[c 2 p4.symm]
  simp[n,p,s,j]
 | none =>
  subst FJ;simp only at p4;have e:=zBJ (G:=G) w wl
  have a1:aE .i64 (o:Int) (w.length:Int)=((o+w.length:Nat):Int):=by rw[ey]<;>omega
  have a2:aE .i64 ((o+w.length:Nat):Int) 1=((o+w.length+1:Nat):Int):=by rw[ey]<;>omega
  have kq:o+w.length+1+uA (L.drop (i+1))=S.length+1:=an
  cases hl:tu w with
  | some x =>
   rw[hl] at e p4;simp only[aaK,abx] at e p4
   by_cases zV:64<=rs.length
   ·rw[if_pos zV] at p4;have X:(64<=(rs.length:Int))=True:=eq_true an;rw[c 3 p4.symm];simp only[Ru.cs] at e;simp[n,p,s,j,g];refine ax e ?_;simp[X,RL]
   ·rw[if_neg zV] at p4;have X:(64<=(rs.length:Int))=False:=eq_false an;have jI:((rs.length+1)*40<=140737488355328)=True:=eq_true an;have Gw:(∀ f∈RL rs,f.length=4)=True:=eq_true (by intro f t;simp only[RL,aaI] at t;obtain⟨y,_,rfl⟩:=t;rfl)
    have eE:RL rs++[x.cs]=RL (rs++[x]):=by simp[RL]
    have xV:(RL rs).length=rs.length:=by simp[RL]
    simp only[Ru.cs] at e eE;simp[n,p,s,j,g];refine ax e ?_;simp[X,jI,Gw,eE,xV,g,a1,a2,i3,-aaa];refine⟨(i+1,o+w.length+1,rs++[x],none),?_,⟨by simp only;omega,by simp;omega,kq,p4⟩,?_,?_⟩
    ·simp only;omega
    ·simp[av]
    ·simp[aj,aw.cl,aX,V.cl,Tk.cl]
  | none =>
   rw[hl] at e p4;simp only[Option.getD_none,Option.isSome_none] at e p4;have M:=zv6 (G:=G) w 32 an;rw[show((abm 32:Nat):Int)=32 from rfl] at M;obtain⟨U,Y⟩:∃ U,U=gD 32 w:=⟨_,rfl⟩;have C:=Ad 32 w;have J_:=P_ 32 w;rw[<-Y] at M C J_;have hc:=zr U;have T1:0<U.length:=aa2.2 C;obtain⟨D,N⟩:∃ D,D=cw U:=⟨_,rfl⟩
   have E:D.length=U.length:=by rw[N];simp
   rw[<-N] at M;obtain⟨z,O⟩:∃ z,z=U[U.length-1]:=⟨_,rfl⟩
   have gz:D[U.length-1]?=some [.str z]:=by rw[N];exact C8 (by rw[aae an,O])
   obtain⟨f,t⟩:∃ f,f=U[0]:=⟨_,rfl⟩
   have Z:D[0]?=some [.str f]:=by rw[N];exact C8 (by rw[aae T1,t])
   have zl:z.length<=20001:=by
    have:∀ l:List (List UInt8),∀ x∈l,x.length<=uA l:=fun l=>by
     induction l with
     | nil=>simp
     | cons v l ih =>
      intro x hx
      rcases aaE.1 hx with rfl|hx
      ·simp only[uA];omega
      ·have:=ih x hx;simp only[uA];omega
    have:=this U z (by rw[O];exact aaV _);omega
   have pA:=zmf (G:=G) z an
   have u1:c_ .i64 (U.length:Int) 1=((U.length-1:Nat):Int):=by rw[oW an an];omega
   obtain⟨d,hd⟩:∃ d,d=oG w:=⟨_,rfl⟩;rw[<-hd] at p4
   have Ca:∀ v,d=some v->U.length=2/\f=[100,101,102,97,117,108,116]/\eP z=some v:=by
    intro v hv;obtain⟨h1,u⟩:=TM (hd▸hv);rw[<-Y] at u
    have h_:U.length=2:=by rw[<-u];rfl
    refine⟨h_,?_,?_⟩
    ·rw[t];simp only[<-u];rfl
    ·have:z=iT v:=by rw[O];simp only[<-u];rfl
     rw[this];exact Gv h1
   have P4:∀ v,U.length=2->f=[100,101,102,97,117,108,116]->eP z=some v->d=some v:=by
    intro v h1 u h3;rw[hd];refine zsq (BS h3).1 ?_;rw[<-Y,I4,(BS h3).2]
    obtain⟨a,b,Gg⟩:∃ a b,U=[a,b]:=by
     match U,h1 with
     | [a,b],_=>exact⟨a,b,rfl⟩
    have fa:f=a:=by rw[t];simp[Gg]
    have zb:z=b:=by rw[O];simp[Gg]
    rw[Gg,<-fa,<-zb,u]
   simp only[Ru.cs] at e;simp[n,p,s,j,g];refine ax e ?_;simp[g];refine ax M ?_;simp[E,u1,gz];refine ax pA ?_
   by_cases F:U.length=2
   ·have H:((U.length:Int) !=2)=false:=by simp;omega
    by_cases P:f=[100,101,102,97,117,108,116]
    ·have Q:(f==[100,101,102,97,117,108,116])=true:=by simpa using P
     cases hA:eP z with
     | some v =>
      rw[P4 v F P hA] at p4;simp only at p4;simp[E,H,Q,Z,g,a1,a2,i3,-aaa];refine⟨(i+1,o+w.length+1,rs,some v),?_,⟨by simp only;omega,p2,kq,p4⟩,?_,?_⟩
      ·simp only;omega
      ·simp[av]
      ·simp[aj,aw.cl,aX,V.cl,Tk.cl]
     | none =>
      have I:d=none:=by
       cases h:d with
       | none=>rfl
       | some v=>have:=(Ca v h).2.2;rw[hA] at this;cases this
      rw[I] at p4;rw[c 2 p4.symm];simp[E,H,Q,Z]
    ·have Q:(f==[100,101,102,97,117,108,116])=false:=by simpa using P
     have I:d=none:=by
      cases h:d with
      | none=>rfl
      | some v=>exact absurd (Ca v h).2.1 P
     rw[I] at p4;rw[c 2 p4.symm];simp[E,H,Q,Z]
   ·have H:((U.length:Int) !=2)=true:=by simp;omega
    have I:d=none:=by
     cases h:d with
     | none=>rfl
     | some v=>exact absurd (Ca v h).1 F
    rw[I] at p4;rw[c 2 p4.symm];simp[E,H]
def pz(p:Po):Nat:=p.rules.length+(p.rules.map fun r=>r.conds.length).sum
def zqr:∀(l:List (List UInt8)) (o:Nat) (rs:List Ru) (a:Option Nat),(∀ r∈rs,r.cJ)->rs.length<=64->(∀ v,a=some v->eg v=true) ->
  ((rX o rs a l).1.rules.length<=64/\(∀ r∈(rX o rs a l).1.rules,r.cJ))/\((rX o rs a l).2.2=0->l≠[]->eg (rX o rs a l).1.cF=true)
 | [],o,rs,a,h,c,e=>by simp[rX,mz]
 | w::r,o,rs,a,h,c,e=>by
  have z:(mz.rules.length<=64/\∀ r∈mz.rules,r.cJ):=by simp[mz]
  unfold rX;split
  ·split
   ·split
    ·exact⟨z,ir⟩
    ·rename_i v;exact⟨⟨c,h⟩,fun _ _=>e v rfl⟩
   ·exact⟨z,ir⟩
  ·rename_i f;split
   ·exact⟨z,ir⟩
   ·split
    ·rename_i x g;split
     ·exact⟨z,ir⟩
     ·have:=zqr r (o+w.length+1) (rs++[x]) none (fun y b=>by
       rcases aaG.1 b with b|b
       ·exact h y b
       ·rw[aaT.1 b];exact(TK g).1) (by simp;omega) ir
      exact⟨this.1,fun d _=>this.2 d f⟩
    ·split
     ·rename_i v i;have:=zqr r (o+w.length+1) rs (some v) h c (fun y b=>by cases b;exact(TM i).1);exact⟨this.1,fun d _=>this.2 d f⟩
     ·exact⟨z,ir⟩
def zoA(S:List UInt8):((dQ S).1.rules.length<=64/\∀ r∈(dQ S).1.rules,r.cJ)/\((dQ S).2.2=0->eg (dQ S).1.cF=true):=by have:=zqr (gD 10 S) 0 [] none ir ir ir;exact⟨this.1,fun h=>this.2 h (Ad 10 S)⟩
def P5:∀ l:List Nat,(∀ x∈l,x<=4)->l.sum<=4*l.length
 | [],_=>by simp
 | a::l,h=>by
  have:=P5 l (fun x b=>h x (by simp[b]));have:=h a ir;simp only[List.sum_cons,aaM];omega
def zzf[jE G][fk G][dy G][ij G][eD G][jO G][gV G][qH G](S:List UInt8)(b:S.length<=20000):FP G 504 [.str S] (.int .i64 (pz (dQ S).1:Nat)):=by
 refine bD qH.af5 (aab rfl) ?_;have f:=zrE (G:=G) S b;obtain⟨⟨B,g⟩,_⟩:=zoA S;generalize n:(dQ S).1=p at *
 have o:pj (dQ S)=.a_ [.agg [.vs (RL p.rules) .no,.int .u32 (p.cF:Int)],.int .i64 ((dQ S).2.1:Nat),.int .i64 ((dQ S).2.2:Nat)]:=by rw[pj,n];rfl
 rw[o] at f;obtain⟨N,c⟩:∃ N:Nat->Nat,∀ i,N i=p.rules.length+((p.rules.take i).map fun r=>r.conds.length).sum:=⟨_,fun _=>rfl⟩
 have q:N 0=p.rules.length:=by rw[c];simp
 have d:∀ i r,p.rules[i]?=some r->N (i+1)=N i+r.conds.length:=fun i r h=>by rw[c,c,aat,h];simp;omega
 have s:∀ i,N i<=64+4*64:=fun i=>by
  rw[c]
  have:=P5 ((p.rules.take i).map fun r=>r.conds.length) (fun x a=>by
   simp only[aaI] at a;obtain⟨r,t,rfl⟩:=a
   exact(BV (g r (aap t))).2.2.2.2)
  rw[abG,aaq] at this;omega
 have e:pz p=N p.rules.length:=by rw[c,aaA];rfl
 rw[e];simp;refine ax f ?_;simp;refine aQ p.rules.length (fun i=>[(3,.ptr 0 0),(6,.int .i64 (N i:Nat)),(7,.int .i64 i)]) (fun _=>[some (.cells [.vs (RL p.rules) .no,.int .u32 (p.cF:Int)])]) (fun _=>True) ?_ ?_
 ·simp[av,aj,aw.cl,aX,V.cl,Tk.cl,q]
 intro i hi _
 have j:(RL p.rules).length=p.rules.length:=by simp[RL]
 rcases aam hi with u|k
 ·subst u;simp[j]
 ·obtain⟨x,a⟩:∃ x,p.rules[i]?=some x:=⟨_,aae k⟩
  have l:(RL p.rules)[i]?=some x.cs:=by simp[RL,a]
  have v:((i:Int)<(p.rules.length:Int))=True:=eq_true an
  have w:aE .i64 (i:Int) 1=((i+1:Nat):Int):=by rw[ey]<;>omega
  have y:=d i x a;have C:=s i;have D:=(BV (g x (aah a))).2.2.2.2
  have z:aE .i64 (N i:Int) (x.conds.length:Int)=((N (i+1):Nat):Int):=by rw[y,ey]<;>omega
  have A:(CL x.conds).length=x.conds.length:=by simp[CL]
  have m:=(aad.1 l).2;simp only[Ru.cs] at l m;simp[j,v,m,A,w,z,k,av,aj,aw.cl,aX,V.cl,Tk.cl,-aaa]
noncomputable def E1(S:List UInt8)(T:Nat)(x y z:Int):Bool:=decide (2000<S.length\/8<pz (dQ S).1\/3000<T\/4<x\/25<y\/3<z)
def zzg[jE G][fk G][dy G][ij G][eD G][jO G][gV G][qH G][tv G](S:List UInt8)(tab:List (List V))(x y z:Int) :
  FP G 505 [.str S,.vs tab .no,.agg [.int .i64 x,.int .i64 y,.int .i64 z]] (.bool (E1 S tab.length x y z)):=by
 refine bD tv.af6 (aab rfl) ?_
 by_cases f:2000<S.length
 ·have b:(2000<(S.length:Int))=True:=eq_true an
  have:E1 S tab.length x y z=true:=by simp[E1,f]
  rw[this];simp[b]
 ·have b:(2000<(S.length:Int))=False:=eq_false an;have h:=zzf (G:=G) S an
  have e:E1 S tab.length x y z=(decide (8<pz (dQ S).1)||decide (3000<tab.length)||decide (4<x)||decide (25<y)||decide (3<z)):=by rw[abC];simp[E1,f,or_assoc]
  rw[e];generalize pz (dQ S).1=n at *;simp[b];refine ax h ?_
  by_cases c:8<n
  ·have a:(8<(n:Int))=True:=eq_true an;simp[a,c]
  have a:(8<(n:Int))=False:=eq_false an
  by_cases g:3000<tab.length
  ·have d:(3000<(tab.length:Int))=True:=eq_true an;simp[a,c,g,d]
  have d:(3000<(tab.length:Int))=False:=eq_false an
  by_cases i:4<x<;>by_cases j:25<y<;>simp[a,c,g,d,i,j]
def Ur:∀{f:List af},jP f=true->∀ x∈f,jX x=true
 | [],_,x,h=>by simp at h
 | y::f,a,x,h=>by
  simp only[jP,aal] at a
  rcases aaE.1 h with rfl|h
  ·have:=a.1;simp only[fg,aal] at this;exact this.1.1.1
  ·exact Ur a.2 x h
def zD6{S:List UInt8}{n:Nat}{x y z:Int}(h:E1 S n x y z=false):S.length<=2000/\n<=3000/\pz (dQ S).1<=8:=by simp only[E1,decide_eq_false_iff_not] at h;omega
noncomputable def iK(S:List UInt8):Po:=(dQ S).1
def qo(b:List Nat):List TR:=(vR b).getD []
noncomputable def qJ(S:List UInt8)(b:List Nat)(x y z:Int):(List af×List TR)×Nat×Bool:=rI (kF (iK S)) (qo b) x y z
def GQ(q:(List af×List TR)×Nat×Bool):V:=.agg [FL q.1.1,.vs (ak .u8 (kM q.1.1)) .no,.vs (ak .u8 (EY q.1.2)) .no,.int .i64 (q.2.1:Nat),.bool q.2.2]
def LP:V:=.agg [.vs [] .no,.vs [] .no,.vs [] .no,.int .i64 0,.bool false]
noncomputable def Db(S:List UInt8)(b:List Nat)(x y z:Int):V :=
 if(dQ S).2.2=0 then .a_ [GQ (qJ S b x y z),.int .i64 0,.int .i64 0] else .a_ [LP,.int .i64 ((dQ S).2.1:Nat),.int .i64 ((dQ S).2.2:Nat)]
def JA{S:List UInt8}(h:(dQ S).2.2=0):vV (iK S)=true/\(iK S).wf:=by
 obtain⟨⟨d,e⟩,a⟩:=zoA S;have a:=a h;refine⟨?_,?_,fun r b=>?_,Lu a⟩
 ·simp only[vV,aal,decide_eq_true_eq,aaJ];exact⟨⟨fun r b=>(e r b).1,a⟩,d⟩
 ·exact aaw d (by decide)
 ·obtain⟨f,g,i,j,k⟩:=BV (e r b);exact⟨aaw k (by decide),fun c l=>(f c l).2,g,i,Lu j⟩
def zsA{b:List Nat}(c:∀ x∈b,x<256):(∀ r∈qo b,r.ok)/\(qo b).length<=64/\ef (qo b)=true:=by
 unfold qo
 cases h:vR b with
 | none=>exact⟨ir,ir,rfl⟩
 | some t =>
  obtain⟨a,d⟩:=zF4 c h;exact⟨d,(MV a).2,a⟩
def zrF{t:List TR}(h:ef t=true):jN t=t:=by rw[jN,if_pos h]
structure GL (f:List af) (q:(List af×List TR)×Nat×Bool):Prop where
 sound:dB q.1.1=true
 k:∀ y∈q.1.1,y.k<4294967296
 len:q.1.1.length<=f.length
 tk:l7 q.1.2
 dT:ef q.1.2=true
def ztY{tries most:Int}:∀(n:Nat) {f:List af} {t:List TR},dB f=true->(∀ y∈f,y.k<4294967296)->l7 t->ef t=true->GL f (uW tries most n f t)
 | 0,f,t,b,c,d,e=>⟨b,c,aaF _,d,e⟩
 | n+1,f,t,b,c,d,e=>by
  unfold uW
  cases g:xI f t tries most with
  | none=>exact⟨b,c,aaF _,d,e⟩
  | some q =>
   have k:=zvZ b c d g;have a:=ztY (tries:=tries) (most:=most) n k.sound k.k k.tk (k.dT e);exact⟨a.sound,a.k,aaw a.len (Nat.le_of_lt k.len),a.tk,a.dT⟩
def Qb{p:Po}(c:p.wf)(d:vV p=true):(kF p).length<=4096/\dB (kF p)=true/\(∀ y∈kF p,y.k<4294967296):=by obtain⟨e,f,h⟩:=Zc c d;obtain⟨i,a⟩:=zpv e;have b:=Zv f h;have g:=i.len;have j:(bt [] 6 p.cF).length=1:=rfl;exact⟨an,(a b).1,(a b).2⟩
def Uo{S:List UInt8}{b:List Nat}(x y z:Int)(g:∀ w∈b,w<256)(h:(dQ S).2.2=0):GL (prune (kF (iK S))) (qJ S b x y z)/\(qJ S b x y z).1.1.length<=(kF (iK S)).length:=by
 obtain⟨a,i⟩:=JA h;obtain⟨m,j,k⟩:=Qb i a;obtain⟨c,n,e⟩:=zsA g;have f:=T7 j;have d:=ztY (tries:=qE y 0 1000) (most:=qE z 0 32) (qE x 0 1000).toNat (t:=qo b) f.1 (zsy k) (fun r a=>⟨(c r a).2.2.1,(c r a).2.2.2.1,(c r a).2.2.2.2⟩) e
 have l:qJ S b x y z=uW (qE y 0 1000) (qE z 0 32) (qE x 0 1000).toNat (prune (kF (iK S))) (qo b):=by rw[qJ,rI,zrF e]
 rw[<-l] at d;exact⟨d,aaw d.len f.2.1⟩
noncomputable def P7(p:Po)(a:Int)(Q:(List af×List TR)×Nat×Bool):Nat->Jb
 | 0=>vS
 | 1=>{ vS with p:=p,at_:=a,e:=0,k1:=.no }
 | 2=>{ vS with p:=p,at_:=a,e:=0,k1:=.no,f:=IL (kF p),k2:=.no }
 | 3=>{ vS with p:=p,at_:=a,e:=0,k1:=.no,f:=IL (kF p),k2:=.no,F:=IL Q.1.1,T:=TL Q.1.2,n:=(Q.2.1:Nat),d:=Q.2.2,k3:=.no,k4:=.no }
 | 4=>{ vS with p:=p,at_:=a,e:=0,k1:=.no,f:=IL (kF p),k2:=.no,F:=IL Q.1.1,T:=TL Q.1.2,n:=(Q.2.1:Nat),d:=Q.2.2,k3:=.no,k4:=.no,oc:=ak .u8 (kM Q.1.1),k6:=.no }
 | _=>{ vS with p:=p,at_:=a,e:=0,k1:=.no,f:=IL (kF p),k2:=.no,F:=IL Q.1.1,T:=TL Q.1.2,n:=(Q.2.1:Nat),d:=Q.2.2,k3:=.no,k4:=.no,oc:=ak .u8 (kM Q.1.1),k6:=.no,ot:=ak .u8 (EY Q.1.2),k7:=.no }
def zrG[dR G][dx G][az G][ay G][bQ G][dw G][cT G][aN G][cU G][cV G][bW G][cd G][bS G][ar G][H:dS G][cu G][aK G][cZ G][bX G][cN G][eS G][fT G][fE G][fF G][iJ G][dg G][fG G][eI G][ej G][cO G][gJ G][fi G]
  [eB G][bN G][i_ G][bF G][eK G][cM G][bp G][eC G][fj G][cP G][cW G][fU G][dP G][bx G][ig G]
  (S:List UInt8) (b:List Nat) (x y z:Int) (u:S.length<=20000) (h:∀ w∈b,w<256) (v:b.length<=1000000):FP G 483 [.str S,.vs (ak .u8 b) .no,.agg (kp x y z)] (Db S b x y z):=by
 have l:=zvU (G:=G) S u;obtain⟨te,hd,_⟩:=zy9 (G:=G) b h v;simp only[TF] at hd;unfold Db
 by_cases d:(dQ S).2.2=0
 rotate_left
 ·rw[if_neg d];exact zwL (by simp;omega) hd l
 rw[if_pos d];obtain⟨a,p⟩:=JA d;obtain⟨I,A,B⟩:=Qb p a;obtain⟨g,K,C⟩:=zsA h;have m:=zCV (G:=G) (iK S) p;rw[a] at m;have D:T3 (qo b):=⟨an,g⟩;have n:=zpB (G:=G) (kF (iK S)) (qo b) x y z A B D (by rw[zrF C];exact fun r a=>⟨(g r a).2.2.1,(g r a).2.2.2.1,(g r a).2.2.2.2⟩);obtain⟨c,E⟩:=Uo x y z h d;obtain⟨Q,q⟩:∃ Q,Q=qJ S b x y z:=⟨_,rfl⟩;rw[<-q] at c E |-;rw[show rI (kF (iK S)) (qo b) x y z=Q from q.symm] at n
 have s:=V9 (G:=G) Q.1.1 an c.k (fun w F=>by
  have:=c.sound;simp only[dB,aal] at this
  exact Ur this.1.2 w F)
 have t:=zza (G:=G) Q.1.2 c.dT (zv2 c.dT c.tk).2;rw[pj,d] at l;simp only[FL,TF,oK,if_true] at m n s t
 have o:=zwM (G:=G) (S:=S) (tab:=ak .u8 b) (x:=x) (y:=y) (z:=z) (tb:=TL (qo b)) (te:=te) (J:=P7 (iK S) ((dQ S).2.1:Nat) Q) rfl hd (zv3 (j:=vS) l) (zD0 (f:=IL (kF (iK S))) (e:=0) m) (zD1 n) (zD2 s) (zD3 t) (by
  intro i hi
  have:i=0\/i=1\/i=2\/i=3\/i=4\/i=5:=an
  rcases this with rfl|rfl|rfl|rfl|rfl|rfl<;>simp[P7,Jb.cs,vS,aX,V.cl,Tk.cl]) (by
  intro i L M
  have:i=1\/i=2\/i=3\/i=4\/i=5:=an
  rcases this with rfl|rfl|rfl|rfl|rfl<;>rfl)
 exact o
def zGb{p:Po}(c:p.wf)(e:vV p=true):(kF p).length<=4096/\dB (kF p)=true/\(∀ y∈kF p,y.k<4294967296)/\(∀ d:Da,d.ok->(run d (kF p) rF).1=xK d p)/\(kF p).length<=1+Em p:=by obtain⟨f,h,i⟩:=Zc c e;obtain⟨j,a,l⟩:=zyV f;have b:=Zv h i;have g:=j.len;have m:(bt [] 6 p.cF).length=1:=rfl;refine⟨an,(a b).1,(a b).2,fun d hd=>?_,an⟩;have:=l d hd rF zvB;rw[zu] at this;rw[this];exact zrj d p.cF p.rules
def zGc{t:List TR}(h:∀ r∈t,r.ok):l7 t:=fun r a=>⟨(h r a).2.2.1,(h r a).2.2.2.1,(h r a).2.2.2.2⟩
def zBK{t:List TR}(h:l7 t):l7 (jN t):=by
 unfold jN;split
 ·exact h
 ·intro r a;cases a
def zHz{f:List af}{t:List TR}(a tries most:Int)(b:dB f=true)(c:∀ x∈f,x.k<4294967296)(d:l7 t):GI (prune f) (jN t) (rI f t a tries most) :=
 ztR _ (T7 b).1 (zsy c) (zBK d)
def Uq{S:List UInt8}{b:List Nat}(x y z:Int)(g:∀ w∈b,w<256)(h:(dQ S).2.2=0)(d:Da)(hd:d.ok) :
  (run d (qJ S b x y z).1.1 rF).1=xK d (iK S)/\((∀ w∈kF (iK S),w.op≠60)->(run d (qJ S b x y z).1.1 rF).2<=(run d (kF (iK S)) rF).2):=by
 obtain⟨i,a⟩:=JA h;obtain⟨q,c,j,k,_⟩:=zGb a i;obtain⟨l,r,s⟩:=zsA g;have m:=zHz (t:=qo b) x y z c j (zGc l);obtain⟨p1,p2,p3,p4⟩:=T7 c;obtain⟨e,f⟩:=m.run d hd;rw[p4] at e f;refine⟨by rw[qJ,e];exact k d hd,fun n=>f fun w a=>?_⟩;obtain⟨v,o,p,_⟩:=T8 a;rw[p];exact n v o
def zx7{S:List UInt8}:(iK S).rules.length<=maxLen/\∀ r∈(iK S).rules,r.conds.length<=maxLen/\∀ x∈r.conds,x.ok:=by obtain⟨⟨a,b⟩,_⟩:=zoA S;refine⟨aaw a (by decide),fun r d=>?_⟩;obtain⟨e,h,i,j,f⟩:=BV (b r d);exact⟨aaw f (by decide),fun c g=>(e c g).2⟩
def zzh(S:List UInt8):pj (dQ S)=.a_ [.agg [.vs (RL (iK S).rules) .no,.int .u32 ((iK S).cF:Int)],.int .i64 ((dQ S).2.1:Nat),.int .i64 ((dQ S).2.2:Nat)]:=rfl
def nn:List af:=[⟨132,0,0,0⟩,⟨132,0,0,0⟩]
def RA:af:=⟨22,0,0,0⟩
def nA:List af:=nn++[RA]
def zBL:dB nA=true:=by decide +kernel
def zHA:∀ x∈nA,x.k<4294967296:=by decide
def acw:aW nn=true:=by decide +kernel
def zD7:p9 nA:=by
 intro i a hi
 have:i=1\/i=2:=by simp[nA,nn] at hi;omega
 rcases this with rfl|rfl
 ·exact⟨0,⟨132,0,0,0⟩,0,rfl,by decide,rfl⟩
 ·exact⟨1,⟨132,0,0,0⟩,0,rfl,by decide,rfl⟩
def zBM:rows nA 4 3=[(0,2)]:=by kernel_rfl
def zGd:rows [RA] 4 1=[]:=by kernel_rfl
def zBN:Jt nA 0 2=1:=by kernel_rfl
def zD8:eU nA 0 2 []=[RA]:=by kernel_rfl
def zBO:u6 (aH [] nn).p (aH (aH [] nn).L []).p (aH [] nn).st (aH (aH [] nn).L []).st 1=true:=by kernel_rfl
def zBP:gZ nn 1 9=some []:=by
 refine zGp (k:=0) (zEd (by decide)) (by decide) ?_ fun j a=>by omega
 have:=zB6 (v:=nn) (w:=[]) (live:=1) acw (by decide +kernel);rw[zBO] at this;simpa using this
def Jy:TR:=⟨nn,[],1⟩
def zzi:qw [] Jy=([Jy],0):=by kernel_rfl
def zD9:rI nA [] 9 9 4=(([RA],[Jy]),1,true):=by
 have a:xI nA [] 9 4=some ([RA],[Jy]):=by
  rw[xI,show nA.length=3 from rfl,zBM];have b:wD nA 0 2=nn:=rfl
  have c:yI nn [] 1 9=some []:=by rw[yI,show AD [] nn 1=none from rfl];exact zBP
  have d:sG nA [] 9 (0,2)=some ([RA],[Jy]):=by rw[sG,b,zBN,c,Option.map_some,zD8];rw[show(⟨nn,[],1⟩:TR)=Jy from rfl,zzi]
  rw[List.findSome?_cons,d]
 have e:xI [RA] [Jy] 9 4=none:=by rw[xI,show [RA].length=1 from rfl,zGd];rfl
 rw[rI,zzd zBL zD7,show jN []=[] from rfl,show qE 9 0 1000=9 from rfl,show qE 4 0 32=4 from rfl,show Int.toNat 9=8+1 from rfl,uW,a];simp only[];rw[uW,e]
def sH:List UInt8:=[111,110,32,120,54,52,32,114,101,97,100,32,97,108,108,111,119,32,105,102,32,97,48,32,48,120,102,102,102,102,102,102,102,102,32,101,113,32,48,120,49,10,100,101,102,97,117,108,116,32,107,105,108,108,10]
def P8:Po:=⟨[⟨3221225534,0,[⟨0,0,4294967295,1⟩],2147418112⟩],0⟩
def Jz(n:Nat):Da:=⟨0,3221225534,0,[n,0,0,0,0,0]⟩
def zqs:dQ sH=(P8,0,0):=by
 have a:tu [111,110,32,120,54,52,32,114,101,97,100,32,97,108,108,111,119,32,105,102,32,97,48,32,48,120,102,102,102,102,102,102,102,102,32,101,113,32,48,120,49]=some ⟨3221225534,0,[⟨0,0,4294967295,1⟩],2147418112⟩ :=
  zqj ⟨by decide,by simp[Cd.ok],by decide,by decide,by decide⟩ (by decide +kernel)
 have b:oG [100,101,102,97,117,108,116,32,107,105,108,108]=some 0:=zsq (by decide) (by decide +kernel)
 have c:tu [100,101,102,97,117,108,116,32,107,105,108,108]=none:=by
  cases h:tu [100,101,102,97,117,108,116,32,107,105,108,108] with
  | none=>rfl
  | some y=>have:=znb h;exact absurd this (by decide +kernel)
 have d:gD 10 sH=[[111,110,32,120,54,52,32,114,101,97,100,32,97,108,108,111,119,32,105,102,32,97,48,32,48,120,102,102,102,102,102,102,102,102,32,101,113,32,48,120,49],[100,101,102,97,117,108,116,32,107,105,108,108],[]]:=by decide +kernel
 rw[dQ,d];simp[rX,a,b,c,P8]
def zEa[dR G][dx G][az G][ay G][bQ G][dw G][cT G][aN G][cU G][cV G][bW G][cd G][bS G][ar G][p:dS G][cu G][aK G][cZ G][bX G][cN G][eS G][fT G][fE G][fF G][iJ G][dg G][fG G][eI G][ej G][cO G][gJ G][fi G]
  [eB G][bN G][i_ G][bF G][eK G][cM G][bp G][eC G][fj G][cP G][cW G][fU G][dP G][bx G][ig G][j0 G][qG G][tE G]
  (p1:FP G 148 [.str [110,101,103,10,110,101,103,10,114,101,116,97,10]] (.a_ [FL nA,.int .i64 0,.int .i64 0])):FP G 484 [] (.bool true):=by
 refine bD tE.afM (aab rfl) ?_;have e:=zpB (G:=G) nA [] 9 9 4 zBL zHA ⟨by decide,fun r f=>by cases f⟩ (fun r f=>by cases f);rw[zD9] at e;have c:=zrG (G:=G) sH [] 1 9 2 (by decide) ir ir
 have a:(dQ sH).2.2=0:=by rw[zqs]
 unfold Db at c;rw[if_pos a] at c;obtain⟨d,q⟩:=Uo (S:=sH) (b:=[]) 1 9 2 ir a;obtain⟨s,_⟩:=Qb (JA a).2 (JA a).1
 have i:(Jz 1).ok:=by simp[Jz,Da.ok]
 have j:(Jz 2).ok:=by simp[Jz,Da.ok]
 have l:=(Uq (S:=sH) (b:=[]) 1 9 2 ir a _ i).1;have m:=(Uq (S:=sH) (b:=[]) 1 9 2 ir a _ j).1
 have n:xK (Jz 1) (iK sH)=2147418112:=by rw[iK,zqs];decide +kernel
 have o:xK (Jz 2) (iK sH)=0:=by rw[iK,zqs];decide +kernel
 rw[n] at l;rw[o] at m;generalize qJ sH [] 1 9 2=Q at *;have g:=Us (G:=G) Q.1.1 _ (by simp only[maxLen];omega) d.k d.sound i;have h:=Us (G:=G) Q.1.1 _ (by simp only[maxLen];omega) d.k d.sound j;rw[l] at g;rw[m] at h;simp only[FL,TF,oK,GQ,kp,show TL []=[] from rfl,show ak .u8 []=[] from rfl] at p1 e c;simp only[FL,DV,Da.cs,Jz,au,aa0,abv] at g h;simp;refine ax c ?_;simp;refine ax g ?_
 simp;refine ax h ?_;simp;refine ax p1 ?_;simp;refine ax e ?_;simp[IL]
end Go.Ev
