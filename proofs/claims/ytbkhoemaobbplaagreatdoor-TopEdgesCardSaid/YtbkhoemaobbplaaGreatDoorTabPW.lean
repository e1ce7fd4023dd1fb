/- Tables: are they right? The code. -/
import Derived.Test.YtbkhoemaobbplaaGreatDoorSymTW
import Derived.Test.YtbkhoemaobbplaaGreatDoorEvLW
import Derived.Test.YtbkhoemaobbplaaGreatDoorEvXW
import Derived.Test.YtbkhoemaobbplaaGreatDoorParMW
set_option linter.defProp false
set_option linter.unusedSimpArgs false
set_option linter.unusedVariables false
set_option maxHeartbeats 16000000
set_option maxRecDepth 100000
open Int renaming natCast_add->aaa,natCast_mul->aas,natCast_emod->aaF,natCast_ediv->abn
open Nat renaming le_of_ble_eq_true->aab,eq_or_lt_of_le->aaj,le_trans->aau,mod_eq_of_lt->aaw,le_refl->aaI,lt_succ_iff_lt_or_eq->aa_,le_of_lt_succ->abc,zero_le->abv,xor_lt_two_pow->abx,mod_lt->abA,not_lt_zero->abB,add_zero->ab5,sub_self->ab6,pow_succ->ab7,mod_one->ab8
open List renaming getElem?_eq_some_iff->aae,getElem?_eq_getElem->aaf,mem_of_getElem?->aah,getD_eq_getElem?_getD->aak,mem_of_mem_take->aan,length_take->aao,take_add_one->aap,mem_of_mem_drop->aaq,all_eq_true->aav,take_of_length_le->aaA,length_append->aaD,take_length->aaE,length_drop->aaG,mem_cons->aaH,mem_append->aaJ,drop_eq_getElem_cons->aaK,mem_map->aaQ,getElem?_of_mem->aaZ,length_cons->aa1,drop_eq_nil_of_le->aa2,mem_singleton->aa7,getElem_mem->aba,getElem?_drop->abb,range->abd,not_mem_nil->abe,map_cons->abf,length_pos_iff->abg,replicate->abi,append_assoc->abj,cons_append->abm,exists_of_findSome?_eq_some->abp,drop_succ_cons->abt,drop_zero->abu,getElem?_take->abw,getElem?_append_right->abz,drop_drop->abD,getElem?_range->abG,map_nil->abI,getElem?_map->abM,ext_getElem->abR,nil_append->abU,length_set->abV,length_nil->abW,length_map->abX,take_zero->ab1,mem_range->ab2,map_take->ab3,length->ab9,cons->ab_
open Bool renaming and_eq_true->aai,true_and->abF,eq_iff_iff->abT
open Option renaming getD_some->aaU,isSome_iff_exists->abh,map_eq_some_iff->abk,toList_some->aby,isSome_some->abJ,toList->ab4
open UInt8 renaming ofNat->aaY,toNat->abC,toNat_ofNat'->abH,toNat_inj->ab0
open BitVec renaming toNat_ofNat->aa6,toNat_xor->abQ
namespace Go.Ev
open Go Go.RowKit
variable {G:aL}
def SE.fp{f:Nat}{args:List V}{s:List UInt8}(h:SE G f args [] (.str s)):FP G f args (.str s):=by obtain⟨H1,a,_⟩:=h;exact⟨_,_,a,ir⟩
def zoY:iq []:=λ_ _=>rfl
def ztb:∀{t:List TR},vr t=true↔∀(j:Nat) (a b:TR),t[j]?=some a->t[j+1]?=some b->ye a b=true
 | []=>by simp[vr]
 | [a]=>by simp[vr]
 | a::b::l=>by
  rw[vr,aai,ztb (t:=b::l)];constructor
  .rintro⟨e,f⟩ j x y c d
   cases j with
   | zero=>simp at c d;rw[<-c,<-d];exact e
   | succ j=>exact f j x y (by simpa using c) (by simpa using d)
  .intro h;exact⟨h 0 a b rfl rfl,λj x y c d=>h (j+1) x y (by simpa using c) (by simpa using d)⟩
def Qf(t:List TR)(i:Nat):Prop:=∀j<i,∀r,t[j]?=some r->r.may=true/\∀q,0<j->t[j-1]?=some q->ye q r=true
def zHd{t:List TR}(h:Qf t t.length):eh t=decide (t.length<=64):=by
 have e:t.all TR.may=true:=by rw[aav];intro r f;obtain⟨j,c⟩:=aaZ f;exact(h j (aae.1 c).1 r c).1
 have g:vr t=true:=ztb.2 λj a b i d=>(h (j+1) (aae.1 d).1 b d).2 a an (by simpa using i);simp[eh,e,g]
def Qg{t:List TR}(h:eh t=true):Qf t t.length/\t.length<=64:=by simp only[eh,aai,decide_eq_true_eq] at h;obtain⟨⟨b,c⟩,d⟩:=h;refine⟨λj f r a=>⟨aav.1 b r (aah a),λq g e=>?_⟩,d⟩;exact ztb.1 c (j-1) q r e (by rw[show j-1+1=j by omega];exact a)
def zyX{t:List TR}{i:Nat}{r:TR}(a:t[i]?=some r)(h:r.may=false\/∃q,0<i/\t[i-1]?=some q/\ye q r=false):eh t=false:=by
 cases d:eh t with
 | false=>rfl
 | true =>
  obtain⟨b,e⟩:=(Qg d).1 i (aae.1 a).1 r a
  rcases h with h|⟨q,f,g,c⟩
  .rw[h] at b;cases b
  .have:=e q f g;rw[this] at c;cases c
def Qh[aE G][aD G][aQ G][ej G][cS G](t:List TR)(U:t.length<=1000000)(D:∀r∈t,r.ok):FP G 354 [TF t] (.bool (eh t)):=by
 refine bw cS.afo (aab rfl) ?_;simp[TF];refine aO t.length (λi=>[(0,TF t),(5,TF t),(6,.int .i64 t.length),(7,.int .i64 i)]) (λ_=>[]) (λi=>Qf t i) ?_ ?_
 .simp[av,ak,TF];intro j l;omega
 intro i hi m
 by_cases e:i<t.length
 .obtain⟨x,E⟩:=bb (t[i])
  have a:t[i]?=some x:=by rw[E];exact aaf e
  have M:=JX a;have N:x∈t:=aah a;have F:=D x N;have o:x.cs.length=3:=rfl;have p:x.cs.take 3=x.cs:=rfl
  have O:∀n,aZ n x.cs=x.cs:=λn=>by simp[TR.cs,aZ,V.cl,Tk.cl]
  have P:(TL t)[i]'(by simpa using e)=x.cs:=by simp[TL,E]
  have c:=zuz (G:=G) x F;simp(disch:=omega)[bC,TF,M,P,o,p,O];simp only[TV] at c;refine aw c ?_
  cases f:x.may with
  | false =>
   have s:=zyX a (.inl f)
   simp[s]
  | true =>
   by_cases g:0<i
   .obtain⟨q,H⟩:=bb (t[i-1]'(by omega))
    have d:t[i-1]?=some q:=by rw[H];exact aaf an
    have u:(TL t)[i-1]'(by simp;omega)=q.cs:=by simp[TL,H]
    have v:=JX d;have w:=(m (i-1) an q d).1;have y:=D q (aah d);have z:q.cs.length=3:=rfl;have A:q.cs.take 3=q.cs:=rfl;have I:=(Qd (G:=G) q y w [] zoY).fp;have J:=(Qd (G:=G) x F f [] zoY).fp;simp only[TV] at I J
    have Q:bO .i64 i 1=((i-1:Nat):Int):=by rw[nW]<;>omega
    simp(disch:=omega)[g,Q,v,u,z,A,o,p,aB,gV];refine aw I ?_;simp(disch:=omega)[o,p];refine aw J ?_
    cases k:ye q x with
    | false =>
     have s:=zyX a (.inr ⟨q,g,d,k⟩);have B:Op.bytesLess q.by x.by=false:=k
     simp[B,s]
    | true =>
     have B:Op.bytesLess q.by x.by=true:=k
     have C:Qf t (i+1):=λj l r b=>by
      rcases aa_.1 l with h|rfl
      .exact m j h r b
      .rw[a] at b;cases b;exact⟨f,λW _ K=>by rw[d] at K;cases K;exact k⟩
     simp(disch:=omega)[B,e,bA,av,ak,TF,-aaa];exact C
   .have R:i=0:=an
    subst R
    have C:Qf t 1:=λj l r b=>by
     have:j=0:=an
     subst this;rw[a] at b;cases b;exact⟨f,λq g=>absurd g an⟩
    have S:aC .i64 0 1=1:=qq
    simp(disch:=omega)[av,ak,TF,S,e,C]
 .have T:i=t.length:=an
  subst T;have:=zHd m
  by_cases L:t.length<=64
  .have h:((t.length:Int)<=64)=True:=ah7;simp[this,L,h,TF]
  .have h:((t.length:Int)<=64)=False:=ah8;simp[this,L,h,TF]
def ztc[cS G](r:TR)(c:r.fr.length<=1000000)(d:r.to.length<=1000000):FP G 356 [TV r] (TV r):=by
 refine bw cS.afq (aab rfl) ?_
 have e:r.fr.length*32<=140737488355328:=an
 have f:r.to.length*32<=140737488355328:=an
 by_cases a:r.fr=[]<;>by_cases b:r.to=[] <;>
  simp(disch:=omega)[TV,TR.cs,zyG,a,b,aB]
def zEX{t:List TR}{x y:TR}{i:Nat}(h:∀j<i,∀z,t[j]?=some z->ye z x=true)(b:t[i]?=some y)(c:ye y x=false):qp t x=i:=by
 induction t generalizing i with
 | nil=>simp at b
 | cons a t d =>
  cases i with
  | zero=>simp at b;subst b;simp[qp,c]
  | succ i =>
   have e:=h 0 an a rfl;have:=d (i:=i) (λj g z f=>h (j+1) an z (by simpa using f)) (by simpa using b);simp only[qp] at this |-;simp[e,this]
def zCB{t:List TR}{x:TR}(h:∀z∈t,ye z x=true):qp t x=t.length:=by
 induction t with
 | nil=>rfl
 | cons a t b =>
  have:=b λz c=>h z (by simp[c]);simp only[qp] at this |-;simp[h a ir,this]
def zCC[aE G][ej G][cS G](t:List TR)(x:TR)(T:t.length<=1000000)(L:∀r∈t,r.ok)(M:∀r∈t,r.may=true)(N:x.ok)(O:x.may=true)(H:ae)(p:iq H) :
  SE G 355 [TF t,TV x,.fn 353 []] H (.bc [.int .i64 (qp t x:Nat),.bool (se t x)]):=by
 refine zFH cS.afp (aab rfl) ?_;have I:=La p;have J:∀s:ae,ak H.length (H++s)=H:=λs=>p.back s;have e:x.cs.length=3:=rfl;have f:x.cs.take 3=x.cs:=rfl
 have q:∀n,aZ n x.cs=x.cs:=λn=>by simp[TR.cs,aZ,V.cl,Tk.cl]
 have u:=λs v=>Qd (G:=G) x N O s v;simp only[TV] at u;simp[TF,TV,ll,iG,z8,xT];refine aO t.length (λi=>[(0,TF t),(2,.fn 353 []),(4,.ptr H.length 0),(10,TF t),(11,.int .i64 t.length),(12,.int .i64 i)]) (λ_=>H++[some (.cells x.cs)]) (λi=>∀j<i,∀z,t[j]?=some z->ye z x=true) ?_ ?_
 .simp[av,TF,I,ay.cl,q]
 intro i hi w
 by_cases A:i<t.length
 .obtain⟨y,K⟩:=bb (t[i])
  have b:t[i]?=some y:=by rw[K];exact aaf A
  have P:=JX b;have B:=M y (aah b);have C:=L y (aah b);have g:y.cs.length=3:=rfl;have k:y.cs.take 3=y.cs:=rfl
  have ky:∀n,aZ n y.cs=y.cs:=λn=>by simp[TR.cs,aZ,V.cl,Tk.cl]
  have Q:(TL t)[i]'(by simpa using A)=y.cs:=by simp[TL,K]
  have D:=λs v=>Qd (G:=G) y C B s v;simp only[TV] at D
  have l:iq (H++[some (.cells x.cs),some (.cells y.cs)]):=p.app λn=>by simp[ay.cl,q,ky]
  have E:¬H.length+2<=H.length:=an
  have CH:¬H.length+2<=H.length+1:=an
  simp(disch:=omega)[bC,TF,P,Q,g,k,e,f,ll,iG,z8,xT];refine SE.vcall (args:=[.agg y.cs]) (cap:=[]) (D _ l) rfl ?_;simp(disch:=omega)[CH,E,g,k,e,f,ll,iG,z8,xT];refine SE.vcall (args:=[.agg x.cs]) (cap:=[]) (u _ l) rfl ?_
  cases m:ye y x with
  | true =>
   have F:Op.bytesLess y.by x.by=true:=m
   have R:∀j<i+1,∀z,t[j]?=some z->ye z x=true:=λj o z c=>by
    rcases aa_.1 o with h|rfl
    .exact w j h z c
    .rw[b] at c;cases c;exact m
   simp(disch:=omega)[F,A,bA,av,I,ay.cl,q,TF,-aaa]
   exact R
  | false =>
   have F:Op.bytesLess y.by x.by=false:=m;have d:=zEX w b m
   have a:se t x=decide (y.by=x.by):=by rw[se,d,b]
   simp(disch:=omega)[F,CH,E,g,k,e,f,ll,iG,z8,xT];refine SE.vcall (args:=[.agg y.cs]) (cap:=[]) (D _ l) rfl ?_;simp(disch:=omega)[CH,E,g,k,e,f,ll,iG,z8,xT];refine SE.vcall (args:=[.agg x.cs]) (cap:=[]) (u _ l) rfl ?_;simp[J,d,a];exact abT.2 ir
 .have S:i=t.length:=an
  subst S
  have d:=zCB (t:=t) (x:=x) λz c=>by
   obtain⟨j,o⟩:=aaZ c;exact w j (aae.1 o).1 z o
  have a:se t x=false:=by rw[se,d,List.getElem?_eq_none (aaI _)]
  simp[TF,J,d,a]
def zEY[cS G](f g:List af)(r:f.length<=1000000):FP G 358 [FL f,FL g] (.bool (decide (f=g))):=by
 refine bw cS.afs (aab rfl) ?_
 by_cases c:f.length=g.length
 .have j:((f.length:Int) !=(g.length:Int))=false:=by simp[c]
  simp[FL,j];refine aO f.length (λi=>[(0,FL f),(1,FL g),(12,.int .i64 f.length),(13,.int .i64 i)]) (λ_=>[]) (λi=>f.take i=g.take i) ?_ ?_
  .simp[av,ak,FL,c]
  intro i hi k
  by_cases l:i<f.length
  .obtain⟨x,a⟩:=bb (f[i])
   have p:i<g.length:=an
   obtain⟨y,b⟩:=bb (g[i]);have m:=sC l;have n:=sC p;rw[<-a] at m;rw[<-b] at n;have a:=a.symm;have b:=b.symm;have d:=E9 x y
   by_cases e:x=y
   .rw[decide_eq_true e] at d
    have q:f.take (i+1)=g.take (i+1):=by rw[aap,aap,k,aaf l,aaf p,a,b,e]
    simp(disch:=omega)[bC,FL,m,n,a,b,d,l,bA,av,ak,q,-aaa]
   .rw[decide_eq_false e] at d
    have o:¬f=g:=by rintro rfl;exact e (a.symm.trans b)
    simp(disch:=omega)[bC,FL,m,n,a,b,d,o,-aaa]
  .have o:i=f.length:=an
   subst o;rw[aaE,c,aaE] at k;simp[FL,k]
 .have j:((f.length:Int) !=(g.length:Int))=true:=by simp;omega
  have:¬f=g:=λh=>c (by rw[h]);simp[FL,j,this]
def Qj(t:List TR):(∀f∈TL t,f.length=3)=True:=by simp only[eq_iff_iff,iff_true];intro f a;simp only[TL,aaQ] at a;obtain⟨x,_,rfl⟩:=a;rfl
def ztd(r:TR):r.cs.all V.pure=true:=by simp[TR.cs]
def U3(t:List TR)(r:TR):TL t++[r.cs]=TL (t++[r]):=by simp[TL]
def zNz{a:Nat}(h:a<4294967296):jY .u32 (a:Int) 262143=((a%262144:Nat):Int):=by unfold jY;rw[show(262143:Int)=((262143:Nat):Int) from rfl,sv,sv,BitVec.toNat_and,aa6,aa6];have b:a%2^IntKind.u32.bits=a:=aaw h;have c:262143%2^IntKind.u32.bits=2^18-1:=rfl;rw[b,c,Nat.and_two_pow_sub_one_eq_mod];exact sM (by have:=abA a (show 0<2^18 by decide);omega)
def pV:Option (List af)->V
 | some x=>.bc [.vs (IL x) .no,.bool true]
 | none=>.bc [.vs [] .no,.bool false]
def JZ{r:TR}(h:r.may=true):r.fr.length<=32/\r.to.length<=32:=by simp only[TR.may,aai] at h;exact⟨(Mp h.1.1.1).1,(Mp h.1.1.2).1⟩
def zEZ[aE G][aD G][aQ G][ej G][cS G](t:List TR)(w:List af)(live:Nat)(u:t.length<=1000000)(v:∀r∈t,r.ok)(y:live<4294967296) :
  FP G 359 [TF t,FL w,.int .u32 live] (pV (Cr t w live)):=by
 refine bw cS.aft (aab rfl) ?_;have a:=Qh (G:=G) t u v;simp only[TF] at a;simp[TF];refine aw a ?_
 cases d:eh t with
 | false=>simp[Cr,d,pV]
 | true =>
  have z:∀r∈t,r.may=true:=λr a=>by
   simp only[eh,aai] at d;exact aav.1 d.1.1 r a
  simp;refine aO t.length (λi=>[(1,FL w),(2,.int .u32 live),(13,TF t),(14,.int .i64 t.length),(15,.int .i64 i)]) (λ_=>[]) (λi=>∀j<i,∀r,t[j]?=some r->(decide (r.fr=w)&&decide (live%262144=r.lv))=false) ?_ ?_
  .simp[av,ak,TF,FL]
  intro i hi k
  by_cases e:i<t.length
  .obtain⟨x,l⟩:=bb (t[i])
   have m:t[i]?=some x:=by rw[l];exact aaf e
   have A:=JX m;have B:=z x (aah m);obtain⟨F,H⟩:=JZ B
   have C:(TL t)[i]'(by simpa using e)=x.cs:=by simp[TL,l]
   have p:=zEY (G:=G) x.fr w an;simp only[FL] at p;simp(disch:=omega)[bC,TF,FL,A,C,TR.cs];refine aw p ?_;have n:=zNz y
   have next:(decide (x.fr=w)&&decide (live%262144=x.lv))=false->∀j<i+1,∀r,t[j]?=some r->(decide (r.fr=w)&&decide (live%262144=r.lv))=false:=λD j b r a=>by
    rcases aa_.1 b with h|rfl
    .exact k j h r a
    .rw[m] at a;cases a;exact D
   by_cases c:x.fr=w
   .by_cases q:live%262144=x.lv
    .have f:(((live%262144:Nat):Int)==(x.lv:Int))=true:=by simp;omega
     have g:Cr t w live=some x.to:=by
      rw[Cr,d,if_pos rfl]
      have:t.find? (λr=>decide (r.fr=w)&&decide (live%262144=r.lv))=some x:=by rw[List.find?_eq_some_iff_getElem];refine⟨by simp[c,q],i,e,l.symm,λj b=>?_⟩;rw[k j b _ (aaf an)];rfl
      rw[this];rfl
     by_cases s:x.to=[]
     .simp(disch:=omega)[c,n,f,s,g,pV,-aaF]
     .simp(disch:=omega)[c,n,f,s,zyG,aB,g,pV,-aaF]
    .have f:(((live%262144:Nat):Int)==(x.lv:Int))=false:=aG an;have:=next (by simp[q]);simp(disch:=omega)[c,n,f,e,bA,av,ak,TF,FL,-aaa,-aaF]
     exact λj b r a o=>by have:=this j b r a;simpa[o] using this
   .have:=next (by simp[c]);simp(disch:=omega)[c,e,bA,av,ak,TF,FL,-aaa,-aaF]
    exact λj b r a o=>by have:=this j b r a;simpa[o] using this
  .have E:i=t.length:=an
   subst E
   have g:Cr t w live=none:=by rw[Cr,d,if_pos rfl,Option.map_eq_none_iff,List.find?_eq_none];intro r a;obtain⟨j,b⟩:=aaZ a;rw[k j (aae.1 b).1 r b];simp
   simp[g,pV]
def zCD[aE G][aD G][aQ G][ej G][cS G](t:List TR)(r:TR)(N:t.length<=1000000)(O:∀r∈t,r.ok)(P:r.ok) :
  FP G 357 [TF t,TV r] (.bc [TF (q6 t r).1,.int .i64 (q6 t r).2]):=by
 refine bw cS.afr (aab rfl) ?_;have w:=Qh (G:=G) t N O;have h:=zuz (G:=G) r P;have x:r.cs.length=3:=rfl;have z:r.cs.take 3=r.cs:=rfl
 have k:∀n,aZ n r.cs=r.cs:=λn=>by simp[TR.cs,aZ,V.cl,Tk.cl]
 simp only[TF,TV] at w h;simp[TF,TV];refine aw w ?_
 cases a:eh t with
 | false=>simp[q6,a]
 | true =>
  simp[x,z];refine aw h ?_
  cases f:r.may with
  | false=>simp[q6,a,f]
  | true =>
   have C:∀r∈t,r.may=true:=λr w=>by
    simp only[eh,aai] at a;exact aav.1 a.1.1 r w
   have xM:=(Qg a).2;have Q:=zCC (G:=G) t r N O C P f [some (.cells r.cs)] (λn _=>by simp[ay.cl,k]);simp only[TF,TV] at Q;simp[x,z];refine SE.scall Q rfl ?_
   cases b:se t r with
   | true=>simp[q6,a,f,b]
   | false =>
    by_cases E:t.length=64
    .have c:((t.length:Int)==64)=true:=by simp[E]
     simp[q6,a,f,b,E,c]
    .have c:((t.length:Int)==64)=false:=aG an;have F:=zwP t r;obtain⟨p,H⟩:=bb (qp t r)
     have Z:q6 t r=(t.take p++r::t.drop p,0):=by simp[q6,a,f,b,E,H]
     rw[<-H] at F;rw[Z,<-H]
     have eI:(TL t).take p=TL (t.take p):=by simp[TL]
     have l:(TL t).drop p=TL (t.drop p):=by simp[TL]
     have uC:(t.take p).length=p:=by rw[aao];omega
     have vX:=JZ f;have R:=ztc (G:=G) r an an;have oD:=ztd r;simp only[TV] at R;obtain⟨T,m⟩:∃T:Nat->List TR,∀j,T j=t.take j:=⟨_,λ_=>rfl⟩
     have wW:T 0=[]:=by rw[m];rfl
     have S:∀j,j<=t.length->(T j).length=j:=λj W=>by rw[m,aao];omega
     simp(disch:=omega)[c,aB,eI,uC,Qj]
     refine aO p (λi=>[(0,TF t),(3,.ptr 0 0),(6,.int .i64 p),(8,.vs (TL (T i)) (.own 1)),(38,.vs (TL (t.take p)) .no),(39,.int .i64 p),(40,.int .i64 i)])
      (λi=>[some (.cells r.cs),some (.zone i)]) (λ_=>True) ?_ ?_
     .simp[av,ak,TF,wW,TL,ay.cl,k]
     intro i hi _
     by_cases A:i<p
     .obtain⟨y,I⟩:=bb (t[i]'(by omega))
      have d:t[i]?=some y:=by rw[I];exact aaf _
      have Ar:(t.take p)[i]?=some y:=by rw[abw,if_pos A,d]
      have o:=JX Ar
      have J:(TL (t.take p))[i]'(by simp;omega)=y.cs:=by have:=aae.1 o;exact this.2
      have K:=JZ (C y (aah d));have q:=ztc (G:=G) y an an;simp only[TV] at q;have s:y.cs.length=3:=rfl;have u:y.cs.take 3=y.cs:=rfl;have e:=ztd y
      have g:TL (T i)++[y.cs]=TL (T (i+1)):=by rw[m,m,U3,aap,d];rfl
      have B:=S i an;simp(disch:=omega)[bC,o,J,s,u];refine aw q ?_;simp(disch:=omega)[s,u,e,g,B,Qj,aB,A,bA,av,ak,TF,ay.cl,k,-aaa]
     .have L:i=p:=an
      subst L;obtain⟨D,M⟩:=bb (t.drop i)
      have X:D.length=t.length-i:=by rw[M,aaG]
      have g:TL (T i)++[r.cs]=TL (T i++[r]):=U3 _ _;have B:=S i an;obtain⟨U,v⟩:∃U:Nat->List TR,∀j,U j=T i++[r]++D.take j:=⟨_,λ_=>rfl⟩
      have Y:T i++[r]=U 0:=by rw[v,ab1,List.append_nil]
      have Mo:∀j,j<=D.length->(U j).length=i+1+j:=λj W=>by rw[v,aaD,aaD,B,aao];simp;omega
      rw[Y] at g;simp[bC,x,z];refine aw R ?_;rw[<-M] at l |-
      have sN:(TL D).take (t.length-i)=TL D:=by rw[aaA];simp;omega
      simp(disch:=omega)[TF,sN,x,z,oD,g,B,Qj,aB,l,X]
      refine aO D.length (λj=>[(8,.vs (TL (U j)) (.own 1)),(57,.vs (TL D) .no),(58,.int .i64 D.length),(59,.int .i64 j)])
       (λj=>[some (.cells r.cs),some (.zone (i+1+j)),none]) (λ_=>True) ?_ ?_
      .simp[av,ak,Y,ay.cl,k,X]
      intro j W _
      by_cases A:j<D.length
      .obtain⟨y,I⟩:=bb (D[j]'(by omega))
       have d:D[j]?=some y:=by rw[I];exact aaf _
       have o:=JX d;have J:(TL D)[j]'(by simp;omega)=y.cs:=(aae.1 o).2
       have Ql:y∈t:=by have:=aah d;rw[M] at this;exact aaq this
       have K:=JZ (C y Ql);have q:=ztc (G:=G) y an an;simp only[TV] at q;have s:y.cs.length=3:=rfl;have u:y.cs.take 3=y.cs:=rfl;have e:=ztd y
       have g:TL (U j)++[y.cs]=TL (U (j+1)):=by rw[v,v,U3,aap,d];simp
       have fA:=Mo j an;simp(disch:=omega)[bC,o,J,s,u];refine aw q ?_;simp(disch:=omega)[s,u,e,g,fA,Qj,aB,A,bA,av,ak,ay.cl,k,-aaa];omega
      .have L:j=D.length:=an
       subst L
       have cM:U D.length=t.take i++r::D:=by rw[v,aaE,m];simp
       simp[cM]
def yg(b:List Nat)(k:Nat):af:=⟨(b.getD (8*k) 0+256*b.getD (8*k+1) 0:Nat),b.getD (8*k+2) 0,b.getD (8*k+3) 0,b.getD (8*k+4) 0+256*b.getD (8*k+5) 0+65536*b.getD (8*k+6) 0+16777216*b.getD (8*k+7) 0⟩
def oY(b:List Nat):List af:=(abd (b.length/8)).map (yg b)
def pW(b:List Nat):Option (List af):=if b.length<=32768/\b.length%8=0/\(oY b).all jS=true then some (oY b) else none
def zFI(l:List Nat)(h:8<=l.length):∃a b c d e f g i r,l=a::b::c::d::e::f::g::i::r:=by
 match l,h with
 | a::b::c::d::e::f::g::i::r,_=>exact⟨a,b,c,d,e,f,g,i,r,rfl⟩
def zIH{a b c d e f g i:Nat}(h:∀x∈[a,b,c,d,e,f,g,i],x<256)(r:List Nat) :
  qL (yg (a::b::c::d::e::f::g::i::r) 0)=[a,b,c,d,e,f,g,i]:=by
 simp only[aaH,abe,or_false,forall_eq_or_imp,forall_eq] at h;obtain⟨j,k,l,m,n,o,p,q⟩:=h;simp[qL,yg,cV,abd,abd.loop];omega
def zHe{c b:List Nat}(d:c.length=8)(k:Nat):yg (c++b) (k+1)=yg b k:=by
 have e:∀i,(c++b).getD (8*(k+1)+i) 0=b.getD (8*k+i) 0:=λi=>by
  rw[aak,aak,abz an]
  congr 2;omega
 have a:=e 0;simp only[ab5] at a;simp only[yg,e,a]
def zCE{c b:List Nat}(a:c.length=8):oY (c++b)=yg (c++b) 0::oY b:=by
 unfold oY;rw[aaD,a,show(8+b.length)/8=b.length/8+1 by omega,List.range_succ_eq_map,abf,List.map_map]
 congr 1
 refine List.map_congr_left λk _=>?_;exact zHe a k
def zwT:∀(n:Nat) {b:List Nat},b.length=8*n->(∀x∈b,x<256)->ml (oY b)=b
 | 0,b,h,_=>by
  have:b=[]:=List.length_eq_zero_iff.1 an
  subst this;rfl
 | n+1,b,h,m=>by
  obtain⟨a,d,e,f,g,i,j,k,r,rfl⟩:=zFI b an;have:=zCE (c:=[a,d,e,f,g,i,j,k]) (b:=r) rfl;simp only[abm,abU] at this;rw[this,show ∀(x:af) (w:List af),ml (x::w)=qL x++ml w from λ_ _=>rfl,zIH (λx l=>m x (by rw[show a::d::e::f::g::i::j::k::r=[a,d,e,f,g,i,j,k]++r from rfl];exact List.mem_append_left _ l)) r,zwT n (by simp at h;omega) (λx l=>m x (by simp[l]))]
  rfl
def ac_{b:List Nat}(a:∀x∈b,x<256)(k:Nat):(yg b k).k<4294967296:=by
 have e:∀i,b.getD i 0<256:=λi=>by
  rw[aak]
  cases h:b[i]? with
  | none=>simp
  | some x=>exact a x (aah h)
 have c:=e (8*k+4);have d:=e (8*k+5);have f:=e (8*k+6);have g:=e (8*k+7);simp only[yg];omega
def zuA{b:List Nat}{w:List af}(a:∀x∈b,x<256)(h:pW b=some w):ml w=b/\(∀x∈w,jS x=true)/\(∀x∈w,x.k<4294967296)/\w.length<=4096:=by
 unfold pW at h;split at h
 .rename_i d;obtain⟨f,g,e⟩:=d;cases h;refine⟨zwT (b.length/8) an a,by simpa using e,λx c=>?_,by simp[oY];omega⟩;simp only[oY,aaQ] at c;obtain⟨k,_,rfl⟩:=c;exact ac_ a k
 .cases h
def ada{a b:Nat}(c:a<256)(d:b<256):vA .i64 (a:Int) (jz .i64 (b:Int) 8)=((a+256*b:Nat):Int):=by
 have h:=Se (a:=b) (j:=8) an an;rw[show((8:Nat):Int)=8 from rfl] at h;rw[h,Iq an an,Nat.mul_comm,Nat.or_comm,<-Nat.two_pow_add_eq_or_of_lt (i:=8) an]
 congr 1;omega
def zr8[aE G][jV G](b:List Nat)(o:∀x∈b,x<256)(hl:b.length<=1000000):∃e:Int,FP G 429 [.vs (aq .u8 b) .no] (.bc [FL ((pW b).getD []),.int .i64 e])/\((e==0)=(pW b).isSome):=by
 by_cases c1:32768<b.length
 .have d:pW b=none:=if_neg λh=>by omega
  refine⟨3,?_,by rw[d];rfl⟩;refine bw jV.af3 (aab rfl) ?_;have t:(32768<(b.length:Int))=True:=ah7;rw[d];simp[t,FL]
 have t:(32768<(b.length:Int))=False:=ah8;have g2:gn (b.length:Int) 8=((b.length%8:Nat):Int):=wT (b:=8)
 by_cases y:b.length%8=0
 rotate_left
 .have d:pW b=none:=if_neg λh=>by omega
  refine⟨9,?_,by rw[d];rfl⟩;refine bw jV.af3 (aab rfl) ?_
  have g3:(((b.length%8:Nat):Int) !=0)=true:=by simp;omega
  rw[d];simp[t,g2,g3,FL,-aaF]
 have g3:(((b.length%8:Nat):Int) !=0)=false:=by simp;omega
 obtain⟨N,hN⟩:∃N,b.length=8*N:=⟨b.length/8,an⟩
 have mP:(oY b).length=N:=by simp[oY];omega
 have z:∀k,k<N->(oY b)[k]?=some (yg b k):=λk p=>by
  unfold oY;rw[abM,abG an];rfl
 obtain⟨R,C⟩:=bb (pW b)
 have F:∀k,k<N->jS (yg b k)=false->R=none:=λk p h=>by
  rw[C];refine if_neg λhc=>?_;have:=aav.1 hc.2.2 _ (aah (z k p));rw[h] at this;cases this
 have cO:(∀k,k<N->jS (yg b k)=true)->R=some (oY b):=λh=>by
  rw[C];refine if_pos ⟨an,y,aav.2 λx a=>?_⟩;obtain⟨k,p⟩:=aaZ a
  have H:k<N:=by have:=(aae.1 p).1;omega
  rw[z k H] at p;cases p;exact h k H
 rw[<-C];obtain⟨E,I⟩:∃E:V->Prop,∀r,E r↔∃e:Int,r=.bc [FL (R.getD []),.int .i64 e]/\((e==0)=R.isSome):=⟨_,λ_=>Iff.rfl⟩
 suffices hs:∃r,FP G 429 [.vs (aq .u8 b) .no] r/\E r by
  obtain⟨r,J,L⟩:=hs;obtain⟨e,rfl,M⟩:=(I r).1 L;exact⟨e,J,M⟩
 refine DA jV.af3 (aab rfl) ?_;obtain⟨B,q⟩:∃B:Nat->List Nat,∀k,B k=b.drop (8*k):=⟨_,λ_=>rfl⟩;obtain⟨D,hD⟩:=bb (oY b);rw[<-hD] at mP z cO
 have Gw:B 0=b:=by rw[q];rfl
 have IJ:∀k,(B k).length=8*N-8*k:=λk=>by rw[q,aaG,hN]
 have Mj:gn (b.length:Int) 8=0:=by rw[g2,y];rfl
 rw[<-Gw] at t Mj;rw[show aq .u8 b=aq .u8 (B 0) by rw[Gw]];simp[t,Mj];refine aO N (λk=>[(0,.vs (aq .u8 (B k)) .no),(4,.vs (IL (D.take k)) (.own 0))]) (λk=>[some (.zone k)]) (λk=>∀j<k,jS (yg b j)=true) ?_ ?_
 .simp[av,ak]
 intro k H ja;have jB:=IJ k
 by_cases O:k<N
 .obtain⟨f,g,l,m,a4,a5,a6,a7,r,n⟩:=zFI (B k) an;have s:∀x∈B k,x<256:=λx a=>o x (aaq (by rw[q] at a;exact a))
  have P:f<256/\g<256/\l<256/\m<256/\a4<256/\a5<256/\a6<256/\a7<256:=by rw[n] at s;simp only[aaH,forall_eq_or_imp] at s;obtain⟨Q,J,L,M,h4,h5,h6,h7,_⟩:=s;exact⟨Q,J,L,M,h4,h5,h6,h7⟩
  obtain⟨m0,m1,m2,m3,m4,m5,m6,m7⟩:=P
  have gd:∀i,b.getD (8*k+i) 0=(B k).getD i 0:=λi=>by
   rw[q,aak,aak,abb]
  have u:=gd 0;simp only[ab5] at u;obtain⟨x,a⟩:=bb (yg b k);obtain⟨K,hK⟩:=bb (a4+256*a5+65536*a6+16777216*a7)
  have fz:x=⟨(f+256*g:Nat),l,m,K⟩:=by rw[a,yg,gd,gd,gd,gd,gd,gd,gd,u,n,hK];rfl
  have ze:K<4294967296:=an
  have b0:(B k)[0]?=some f:=by rw[n];rfl
  have b1:(B k)[1]?=some g:=by rw[n];rfl
  have b2:(B k)[2]?=some l:=by rw[n];rfl
  have b3:(B k)[3]?=some m:=by rw[n];rfl
  have bk:∀i,i<4->(B k)[4+i]?=some (K/256^i%256):=by
   intro i hi;rw[n]
   have:i=0\/i=1\/i=2\/i=3:=an
   rcases this with rfl|rfl|rfl|rfl<;>simp<;>omega
  have f0:=(aae.1 b0).2;have f1:=(aae.1 b1).2;have f2:=(aae.1 b2).2;have f3:=(aae.1 b3).2;have my:(0<(B k).length)=True:=ah7
  have v:(B k).drop 8=B (k+1):=by rw[q,q,abD];congr 1
  have c:∀b:Nat,b<256->fc .i64 b=(b:Int):=λb o=>IntWalk.i64_in _ ⟨an,an⟩;have S:∀b:Nat,b<256->fc .u32 b=(b:Int):=λb o=>IntWalk.u32_in _ ⟨an,an⟩;have c0:=c f m0;have c1:=c g m1;have y:=c l m2;have c3:=c m m3;have ho:=ada m0 m1;simp(disch:=omega)[my,f0,f1,f2,f3,c0,c1,y,c3,ho,-aaa,-aas];have wR:=Oa (G:=G) x
  have LB:x.cs=[.int .i64 ((f+256*g:Nat):Int),.int .i64 l,.int .i64 m,.int .u32 K]:=by rw[af.cs,fz]
  simp only[IV,LB] at wR;obtain⟨w,A⟩:∃w:Nat->Nat,∀i,w i=K%256^i:=⟨_,λ_=>rfl⟩
  have T:w 0=0:=by rw[A];simp[ab8]
  have U6:w 4=K:=by rw[A];exact aaw ze
  refine aO 4 (λi=>[(0,.vs (aq .u8 (B k)) .no),(4,.vs (IL (D.take k)) (.own 0)),(5,.ptr 1 0),(40,.int .i64 i)]) (λi=>[some (.zone k),some (.cells [.int .i64 (f+256*g:Nat),.int .i64 l,.int .i64 m,.int .u32 (w i)])]) (λ_=>True) ?_ ?_
  .simp[av,ak,T,-aaa,-aas]
  intro i hi _
  by_cases U:i<4
  .have o:=bk i U;have s:K/256^i%256<256:=abA _ ah9;have W:=zyV K i U ze;rw[<-A,<-A] at W;obtain⟨X,Ec⟩:=bb (K/256^i%256);rw[<-Ec] at o s W
   have m8:dS .i64 8 (i:Int)=((8*i:Nat):Int):=by unfold dS;rw[show((8:Int)*(i:Int))=((8*i:Nat):Int) by omega];exact IntWalk.i64_in _ ⟨an,an⟩
   have Y:aC .i64 4 (i:Int)=(4+i:Nat):=qq
   have cb:=S X s;have fb:=(aae.1 o).2;have Z:(((8*i:Nat):Int)<0)=False:=ah8;have J0:((i:Int)<4)=True:=ah7;simp(disch:=omega)[J0,Z,fb,m8,Y,cb,W,av,ak,bA,U,-aaa,-aas]
  .have:i=4:=an
   subst this;simp(disch:=omega)[U6,-aaa,-aas];refine aw wR ?_
   cases Lo:jS x with
   | false =>
    have d:=F k O (by rw[<-a];exact Lo);have cM:E (.bc [.vs [] .no,.int .i64 2]):=(I _).2 ⟨2,by rw[d];rfl,by rw[d];rfl⟩
    simpa[av,ak] using cM
   | true =>
   have ju:((k+1)*32<=140737488355328)=True:=ah7
   have f_:(D.take k).length=k:=by rw[aao];omega
   have eK:IL (D.take k)++[[.int .i64 ((f+256*g:Nat):Int),.int .i64 l,.int .i64 m,.int .u32 K]]=IL (D.take (k+1)):=by rw[<-LB,Sj,aap,z k O,<-a];rfl
   have h8:((8:Int)<=((B k).length:Int))=True:=ah7;have lh:(B (k+1)).take ((B k).length-8)=B (k+1):=aaA (by rw[<-v,aaG];omega);simp(disch:=omega)[av,ak,ju,f_,eK,h8,CR,yH,v,lh,O,-aaa,-aas];intro j hj
   rcases aaj (abc hj) with h|h
   .rw[h,<-a];exact Lo
   .exact ja j h
 .have:k=N:=an
  subst this;have Q:(0<(B k).length)=False:=ah8;have hr:=cO ja;have eI:D.take k=D:=aaA an;have cM:E (.bc [.vs (IL D) .no,.int .i64 0]):=(I _).2 ⟨0,by rw[hr];rfl,by rw[hr];rfl⟩;simp(disch:=omega)[Q,eI];exact cM
def Qm(r:Nat):Nat:=(r/2) ^^^ (3988292384*(r%2))
def zE0{r:Nat}(h:r<4294967296):Qm r<4294967296:=by unfold Qm;exact abx (n:=32) an an
def zE1{r:Nat}(h:r<4294967296):vB .u32 (jZ .u32 r 1) (dS .u32 3988292384 (jY .u32 (r:Int) 1))=(Qm r:Nat):=by
 have c:jY .u32 (r:Int) 1=((r%2:Nat):Int):=by have:=Ir (a:=r) (b:=1) h ah9;rw[show((1:Nat):Int)=1 from rfl] at this;rw[this,Nat.and_one_is_mod]
 have d:jZ .u32 r 1=((r/2:Nat):Int):=by have:=Bu (a:=r) (j:=1) ah9;simpa using this
 have e:dS .u32 3988292384 ((r%2:Nat):Int)=((3988292384*(r%2):Nat):Int):=by unfold dS;rw[show(3988292384:Int)*((r%2:Nat):Int)=((3988292384*(r%2):Nat):Int) by omega];exact IntWalk.u32_in _ ⟨an,an⟩
 rw[c,d,e,XV an an];rfl
def J1:Nat->Nat->Nat
 | 0,r=>r
 | n+1,r=>Qm (J1 n r)
def zoZ{r:Nat}(h:r<4294967296):∀n,J1 n r<4294967296
 | 0=>h
 | n+1=>zE0 (zoZ h n)
def Qn(r x:Nat):Nat:=J1 8 (r ^^^ x)
def Qo(b:List Nat):Nat:=b.foldl Qn 4294967295
def Ct(b:List Nat):Nat:=4294967295-Qo b
def He(b:List Nat):List Nat:=b++cV (Ct b) 4
def zyY:∀(b:List Nat) (r:Nat),r<4294967296->(∀x∈b,x<256)->b.foldl Qn r<4294967296
 | [],r,h,_=>h
 | x::b,r,h,a=>zyY b _ (zoZ (abx (n:=32) h (by have:=a x ir;omega)) 8) (λy c=>a y (by simp[c]))
def zwU{b:List Nat}(a:∀x∈b,x<256):∀x∈He b,x<256:=by
 intro x c
 rcases aaJ.1 c with h|h
 .exact a x h
 .simp only[cV,aaQ,ab2] at h;obtain⟨j,_,rfl⟩:=h;exact abA _ ah9
def zII[bD G](b:List Nat)(p:∀x∈b,x<256)(I:b.length<=1000000):FP G 472 [.vs (aq .u8 b) .no] (.int .u32 (Ct b:Nat)):=by
 refine bw bD.agr (aab rfl) ?_;obtain⟨R,c⟩:∃R:Nat->Nat,∀i,R i=(b.take i).foldl Qn 4294967295:=⟨_,λ_=>rfl⟩
 have j:R 0=4294967295:=by rw[c];rfl
 have u:Qo b=R b.length:=by rw[c,aaE];rfl
 have l:∀i,R i<4294967296:=λi=>by rw[c];exact zyY _ _ ah9 (λx d=>p x (aan d))
 have m:∀i x,b[i]?=some x->R (i+1)=Qn (R i) x:=λi x h=>by rw[c,c,aap,h,aby,List.foldl_append];rfl
 rw[Ct,u];simp;refine aO b.length (λi=>[(3,.int .u32 (R i:Nat)),(6,.vs (aq .u8 b) .no),(7,.int .i64 b.length),(8,.int .i64 i)]) (λ_=>[]) (λ_=>True) ?_ ?_
 .simp[av,ak,j]
 intro i hi _
 rcases aaj hi with f|s
 .subst f
  have v:AL .u32 (R b.length:Int)=((4294967295-R b.length:Nat):Int):=by
   have:=l b.length;unfold AL;rw[show(if IntKind.u32.signed=true then(-1:Int) else IntKind.u32.max)=((4294967295:Nat):Int) from rfl,sv,sv,abQ,aa6,aa6];simp only[IntKind.bits];rw[aaw (show 4294967295<2^32 by decide),aaw (show R b.length<2^32 from this)]
   have e:4294967295 ^^^ R b.length=4294967295-R b.length:=by
    have q:(BitVec.allOnes 32 ^^^ BitVec.ofNat 32 (R b.length)).toNat=2^32-1-R b.length:=by rw[BitVec.allOnes_xor,BitVec.toNat_not,aa6,aaw (show R b.length<2^32 from this)]
    rw[abQ,BitVec.toNat_allOnes,aa6,aaw (show R b.length<2^32 from this)] at q;exact q
   rw[e];exact sM an
  simp[v]
 .obtain⟨x,d⟩:∃x,b[i]?=some x:=⟨_,aaf s⟩;obtain⟨_,w⟩:=aae.1 d;have J:=p x (aah d);have y:((i:Int)<(b.length:Int))=True:=ah7
  have z:aC .i64 i 1=(i+1:Nat):=qq
  have A:fc .u32 x=(x:Int):=IntWalk.u32_in _ ⟨an,an⟩;have t:=XV (a:=R i) (b:=x) (l i) an;have g:=m i x d;obtain⟨r,o⟩:=bb (R i ^^^ x)
  have B:r<4294967296:=by rw[o];exact abx (n:=32) (l i) an
  rw[<-o] at t;rw[Qn,<-o] at g;simp(disch:=omega)[y,w,A,t];refine aO 8 (λk=>[(3,.int .u32 (J1 k r:Nat)),(6,.vs (aq .u8 b) .no),(7,.int .i64 b.length),(8,.int .i64 i),(16,.int .i64 k)]) (λ_=>[]) (λ_=>True) ?_ ?_
  .simp[av,ak,J1]
  intro k C _
  rcases aaj C with f|D
  .subst f;simp[av,ak,z,s,g,-aaa]
  .have E:((k:Int)<8)=True:=ah7
   have F:aC .i64 k 1=(k+1:Nat):=qq
   have H:=zE1 (zoZ B k);have f:J1 (k+1) r=Qm (J1 k r):=rfl;simp[E,F,H,f,D,av,ak,-aaa]
def zyZ[bD G](b:List Nat)(m:∀x∈b,x<256)(n:b.length<=1000000):FP G 474 [.vs (aq .u8 b) .no] (.vs (aq .u8 (He b)) .no):=by
 refine bw bD.agt (aab rfl) ?_;have h:=zII (G:=G) b m n;obtain⟨c,g⟩:=bb (Ct b)
 have s:c<4294967296:=by rw[g,Ct];omega
 have i:jZ .u32 c 8=((c/256:Nat):Int):=by have:=Bu (a:=c) (j:=8) ah9;simpa using this
 have d:jZ .u32 c 16=((c/65536:Nat):Int):=by have:=Bu (a:=c) (j:=16) ah9;simpa using this
 have e:jZ .u32 c 24=((c/16777216:Nat):Int):=by have:=Bu (a:=c) (j:=24) ah9;simpa using this
 have o:(b.length<=140737488355328)=True:=ah7;have p:(b.length+4<=140737488355328)=True:=ah7
 have q:(∀f∈aq .u8 b,f.length=1)=True:=by simp only[eq_iff_iff,iff_true];intro f k;simp only[aq,aaQ] at k;obtain⟨_,_,rfl⟩:=k;rfl
 have r:aq .u8 (He b)=aq .u8 b++[[.int .u8 ((c%256:Nat):Int)],[.int .u8 ((c/256%256:Nat):Int)],[.int .u8 ((c/65536%256:Nat):Int)],[.int .u8 ((c/16777216%256:Nat):Int)]]:=by simp[He,<-g,cV,abd,abd.loop,aq]
 rw[r];rw[<-g] at h;simp;refine aw h ?_
 by_cases l:aq .u8 b=[]
 .simp[l,i,d,e,Mn,-abn,-aaF];omega
 .simp[l,i,d,e,Mn,o,p,q,-abn,-aaF];omega
def oZ(b:List Nat):List Nat×Nat:=if b.length<4 then([],9) else if He (b.take (b.length-4))=b then(b.take (b.length-4),0) else([],10)
def zjR:∀{a b:List Nat},(∀x∈a,x<256)->(∀x∈b,x<256)->a.map aaY=b.map aaY->a=b
 | [],[],_,_,_=>rfl
 | [],_::_,_,_,h=>by simp at h
 | _::_,[],_,_,h=>by simp at h
 | x::a,y::b,d,f,h=>by
  simp only[abf,ab_.injEq] at h;have g:=d x ir;have i:=f y ir;have e:=congrArg abC h.1;simp only[abH] at e;rw[aaw an,aaw an] at e;rw[e,zjR (λz c=>d z (by simp[c])) (λz c=>f z (by simp[c])) h.2]
def zHf[bD G](b:List Nat)(i:∀x∈b,x<256)(w:b.length<=1000000):FP G 473 [.vs (aq .u8 b) .no] (.bc [.vs (aq .u8 (oZ b).1) .no,.int .i64 ((oZ b).2:Nat)]):=by
 refine bw bD.ags (aab rfl) ?_;have n1:bO .i64 b.length 4=(b.length:Int)-4:=nW an an;unfold oZ
 by_cases o:b.length<4
 .have a:((b.length:Int)-4<0)=True:=ah7;rw[if_pos o];simp[n1,a,aq]
 rw[if_neg o];obtain⟨n,r⟩:=bb (b.length-4)
 have s:(b.length:Int)-4=(n:Int):=an
 rw[s] at n1;rw[<-r];have j:∀x∈b.take n,x<256:=λx t=>i x (aan t);have k:=zyZ (G:=G) (b.take n) j (by rw[aao];omega);have p:=Qc _ (zwU j);have l:=Qc _ i;have a:((n:Int)<0)=False:=ah8;have c:((n:Int)<=(b.length:Int))=True:=ah7;have d:((0:Int)<=(n:Int))=True:=ah7;have y:((b.take n).length<=140737488355328)=True:=eq_true (by rw[aao];omega)
 have u:(b.take n).length=n:=by rw[aao];omega
 have m:(n<=140737488355328)=True:=ah7
 have v:(∀f∈aq .u8 (b.take n),f.length=1)=True:=by simp only[eq_iff_iff,iff_true];intro f q;simp only[aq,aaQ] at q;obtain⟨_,_,rfl⟩:=q;rfl
 by_cases e:He (b.take n)=b
 .rw[if_pos e];rw[e] at k p;simp[n1,d,a,c,yH];refine aw k ?_
  by_cases g:aq .u8 (b.take n)=[]
  .simp[g,l,d,c,yH]
  .simp[g,l,d,c,yH,m,u,v]
 .rw[if_neg e]
  have g:((He (b.take n)).map aaY==b.map aaY)=false:=by rw[beq_eq_false_iff_ne];exact λh=>e (zjR (zwU j) i h)
  simp[n1,d,a,c,yH];refine aw k ?_;simp[p,l,g]
def lvN(b:List Nat):Nat:=b.getD 0 0+256*b.getD 1 0+65536*b.getD 2 0+16777216*b.getD 3 0
def uX(b:List Nat):Option (TR×List Nat) :=
 if b.length<6 then none
 else if(b.drop 6).length<8*b.getD 4 0+8*b.getD 5 0 then none
 else match pW ((b.drop 6).take (8*b.getD 4 0)),pW (((b.drop 6).drop (8*b.getD 4 0)).take (8*b.getD 5 0)) with
  | some f,some g=>some (⟨f,g,lvN b⟩,(b.drop 6).drop (8*b.getD 4 0+8*b.getD 5 0))
  | _,_=>none
def zy0{b q:List Nat}{r:TR}(c:∀x∈b,x<256)(h:uX b=some (r,q)):r.ok/\(∀x∈q,x<256)/\q.length<b.length:=by
 unfold uX at h;split at h
 .cases h
 rename_i n;split at h
 .cases h
 have hd:∀x∈b.drop 6,x<256:=λx a=>c x (aaq a);split at h
 .rename_i f g d j;cases h;obtain⟨_,o,k,p⟩:=zuA (λx a=>hd x (aan a)) d;obtain⟨_,s,l,t⟩:=zuA (λx a=>hd x (aaq (aan a))) j
  have e:∀i,b.getD i 0<256:=λi=>by
   rw[aak]
   cases h:b[i]? with
   | none=>simp
   | some x=>exact c x (aah h)
  have u:=e 0;have v:=e 1;have w:=e 2;have y:=e 3
  have m:lvN b<4294967296:=by unfold lvN;omega
  refine⟨⟨by simp only[maxLen];omega,by simp only[maxLen];omega,k,l,m⟩,λx a=>hd x (aaq a),by simp;omega⟩
 .cases h
def six(l:List Nat)(h:6<=l.length):∃a b c d e f r,l=a::b::c::d::e::f::r:=by
 match l,h with
 | a::b::c::d::e::f::r,_=>exact⟨a,b,c,d,e,f,r,rfl⟩
def zCF[aE G][jV G][bD G](b:List Nat)(I:∀x∈b,x<256)(hl:b.length<=1000000) :
  ∃r q,FP G 475 [.vs (aq .u8 b) .no] (.bc [TV r,.vs (aq .u8 q) .no,.bool (uX b).isSome])/\∀r' j,uX b=some (r',j)->r=r'/\q=j:=by
 obtain⟨R,J⟩:=bb (uX b);rw[<-J];obtain⟨E,z⟩:∃E:V->Prop,∀v,E v↔∃r q,v=.bc [TV r,.vs (aq .u8 q) .no,.bool R.isSome]/\∀r' j,R=some (r',j)->r=r'/\q=j:=⟨_,λ_=>Iff.rfl⟩
 suffices hs:∃r,FP G 475 [.vs (aq .u8 b) .no] r/\E r by
  obtain⟨r,a,A⟩:=hs;obtain⟨x,q,rfl,h3⟩:=(z r).1 A;exact⟨x,q,a,h3⟩
 refine DA bD.agu (aab rfl) ?_
 by_cases Z:b.length<6
 .have s:R=none:=by rw[J];exact if_pos Z
  have L:((b.length:Int)<6)=True:=ah7;have k:E (.bc [.agg [.vs [] .no,.vs [] .no,.int .u32 0],.vs [] .no,.bool false]):=(z _).2 ⟨⟨[],[],0⟩,[],by rw[s];rfl,by rw[s];intro _ _ h;cases h⟩;simp[L];exact k
 have L:((b.length:Int)<6)=False:=ah8;obtain⟨a0,a1,a2,a3,B,C,c,d⟩:=six b an;have l:=I;rw[d] at l;simp only[aaH,forall_eq_or_imp] at l;obtain⟨m0,m1,m2,m3,m4,m5,hc⟩:=l;obtain⟨n,s⟩:=bb (8*B);obtain⟨m,Fg⟩:=bb (8*C);obtain⟨K,hK⟩:=bb (a0+256*a1+65536*a2+16777216*a3)
 have SY:K<4294967296:=an
 have o:R=if c.length<n+m then none else match pW (c.take n),pW ((c.drop n).take m) with
   | some f,some g=>some (⟨f,g,K⟩,c.drop (n+m))
   | _,_=>none:=by
  rw[J,s,Fg,hK,uX,if_neg Z,d];rfl
 have j4:c.length+6=b.length:=by rw[d];simp
 have b4:b[4]?=some B:=by rw[d];rfl
 have b5:b[5]?=some C:=by rw[d];rfl
 have bk:∀i,i<4->b[i]?=some (K/256^i%256):=by
  intro i hi;rw[d]
  have:i=0\/i=1\/i=2\/i=3:=an
  rcases this with rfl|rfl|rfl|rfl<;>simp<;>omega
 have f4:=(aae.1 b4).2;have f5:=(aae.1 b5).2
 have t:b.drop 6=c:=by rw[d];rfl
 obtain⟨u,F⟩:∃u:Nat->Nat,∀i,u i=K%256^i:=⟨_,λ_=>rfl⟩
 have M:u 0=0:=by rw[F];simp[ab8]
 have U6:u 4=K:=by rw[F];exact aaw SY
 have w:∀x:Nat,x<256->fc .i64 x=(x:Int):=λb I=>IntWalk.i64_in _ ⟨an,an⟩;have N:∀x:Nat,x<256->fc .u32 x=(x:Int):=λb I=>IntWalk.u32_in _ ⟨an,an⟩
 have O:∀i:Nat,i<256->dS .i64 8 (i:Int)=((8*i:Nat):Int):=λi hi=>by
  unfold dS;rw[show((8:Int)*(i:Int))=((8*i:Nat):Int) by omega];exact IntWalk.i64_in _ ⟨an,an⟩
 have e4:=w B m4;have e5:=w C m5;have P:=O B m4;have Q:=O C m5;rw[<-s] at P;rw[<-Fg] at Q;simp[L];refine aO 4 (λi=>[(0,.vs (aq .u8 b) .no),(2,.ptr 0 0),(5,.ptr 1 0),(15,.int .i64 i)]) (λi=>[some (.cells [.vs [] .full,.vs [] .full,.int .u32 0]),some (.cells [.vs [] .full,.vs [] .full,.int .u32 (u i)])]) (λ_=>True) ?_ ?_
 .simp[av,ak,ay.cl,aZ,V.cl,Tk.cl,M]
 intro i hi _
 by_cases S:i<4
 .have RF:=bk i S;have l:=abA (K/256^i) (show 0<256 by decide);have T:=zyV K i S SY;rw[<-F,<-F] at T;obtain⟨U,Ec⟩:=bb (K/256^i%256);rw[<-Ec] at RF l T;have cb:=N U l;have fb:=(aae.1 RF).2;have W:(((8*i:Nat):Int)<0)=False:=ah8;have J0:((i:Int)<4)=True:=ah7
  have wL:i<b.length:=an
  have mi:=O i an;simp(disch:=omega)[J0,W,fb,mi,cb,T,av,ak,ay.cl,aZ,V.cl,Tk.cl,bA,S,-aaa,-aas]
 have:i=4:=an
 subst this;have y:((6:Int)<=(b.length:Int))=True:=ah7;have xE:c.take (b.length-6)=c:=aaA an
 have H:aC .i64 n (m:Int)=(n+m:Nat):=qq
 have l4:4<b.length:=an
 have l5:5<b.length:=an
 by_cases G9:c.length<n+m
 .have vF:R=none:=by rw[o,if_pos G9]
  have X:((c.length:Int)<((n+m:Nat):Int))=True:=ah7;have k:E (.bc [.agg [.vs [] .no,.vs [] .no,.int .u32 0],.vs [] .no,.bool false]):=(z _).2 ⟨⟨[],[],0⟩,[],by rw[vF];rfl,by rw[vF];intro _ _ h;cases h⟩;simp(disch:=omega)[U6,f4,f5,e4,e5,P,Q,y,CR,yH,t,xE,H,X,-aaa,-aas];exact k
 rw[if_neg G9] at o;have X:((c.length:Int)<((n+m:Nat):Int))=False:=ah8;obtain⟨x1,p1,q1⟩:=zr8 (G:=G) (c.take n) (λx Y=>hc x (aan Y)) (by rw[aao];omega);obtain⟨x2,p2,q2⟩:=zr8 (G:=G) ((c.drop n).take m) (λx Y=>hc x (aaq (aan Y))) (by rw[aao,aaG];omega);obtain⟨e,DC⟩:=bb (pW (c.take n));obtain⟨p,Qe⟩:=bb (pW ((c.drop n).take m));rw[<-DC] at p1 q1 o;rw[<-Qe] at p2 q2 o
 have r0:((0:Int)<=(n:Int))=True:=ah7;have r1:((n:Int)<=(c.length:Int))=True:=ah7;have r2:((n:Int)<=((n+m:Nat):Int))=True:=ah7;have r3:(((n+m:Nat):Int)<=(c.length:Int))=True:=ah7
 have r4:n+m-n=m:=an
 have r5:(c.drop (n+m)).take (c.length-(n+m))=c.drop (n+m):=aaA (by rw[aaG];omega)
 have AZ:R.isSome=(e.isSome&&p.isSome):=by rw[o];cases e<;>cases p<;>rfl
 have k:E (.bc [.agg [.vs (IL (e.getD [])) .no,.vs (IL (p.getD [])) .no,.int .u32 K],.vs (aq .u8 (c.drop (n+m))) .no,.bool (e.isSome&&p.isSome)]):=by
  refine(z _).2 ⟨⟨e.getD [],p.getD [],K⟩,c.drop (n+m),by rw[AZ];rfl,?_⟩;intro r' j h;rw[o] at h
  cases a:e with
  | none=>rw[a] at h;cases h
  | some f =>
   cases A:p with
   | none=>rw[a,A] at h;cases h
   | some g=>rw[a,A] at h;cases h;exact⟨rfl,rfl⟩
 simp only[FL] at p1 p2;simp(disch:=omega)[U6,f4,f5,e4,e5,P,Q,y,CR,yH,t,xE,H,X,r0,r1,-aaa,-aas];refine aw p1 ?_;simp(disch:=omega)[CR,yH,H,r0,r2,r3,r4,-aaa,-aas];refine aw p2 ?_;simp(disch:=omega)[CR,yH,H,r3,r5,q1,-aaa,-aas]
 cases a:e.isSome<;>rw[a] at k<;>simp[q2]<;>simpa using k
def Hg:Nat->List Nat->List TR->Option (List TR×List Nat)
 | 0,b,t=>some (t,b)
 | n+1,b,t=>match uX b with
  | none=>none
  | some (r,q)=>Hg n q (t++[r])
def Cu:List Nat:=[72,82,84,49]
def wE(b:List Nat):Option (List TR) :=
 if(oZ b).2≠0\/(oZ b).1.length<=4\/(oZ b).1.take 4≠Cu then none
 else match Hg ((oZ b).1.getD 4 0) ((oZ b).1.drop 5) [] with
  | some (t,q)=>if q=[]/\eh t=true then some t else none
  | none=>none
def zCG:∀(n:Nat) {b q:List Nat} {t u:List TR},(∀x∈b,x<256)->(∀r∈t,r.ok)->Hg n b t=some (u,q)->∀r∈u,r.ok
 | 0,b,q,t,u,d,c,h=>by cases h;exact c
 | n+1,b,q,t,u,d,c,h=>by
  unfold Hg at h
  cases a:uX b with
  | none=>rw[a] at h;cases h
  | some x =>
   rw[a] at h;obtain⟨e,f,_⟩:=zy0 d a
   exact zCG n f (λr a=>by
    rcases aaJ.1 a with a|a
    .exact c r a
    .rw[aa7.1 a];exact e) h
def zy1{b:List Nat}(a:∀x∈b,x<256):∀x∈(oZ b).1,x<256:=by
 unfold oZ;split
 .simp
 .split
  .exact λx c=>a x (aan c)
  .simp
def zE2(b:List Nat):(oZ b).1.length<=b.length:=by
 unfold oZ;split
 .simp
 .split
  .rw[aao];omega
  .simp
def zHg{b:List Nat}{t:List TR}(a:∀x∈b,x<256)(h:wE b=some t):eh t=true/\∀r∈t,r.ok:=by
 unfold wE at h;split at h
 .cases h
 .split at h
  .rename_i u q c;split at h
   .rename_i d;cases h;exact⟨d.2,zCG _ (λx e=>zy1 a x (aaq e)) ir c⟩
   .cases h
  .cases h
def zz9[aE G][jV G][aD G][aQ G][ej G][cS G][bD G](b:List Nat)(P:∀x∈b,x<256)(hl:b.length<=1000000) :
  ∃e:Int,FP G 476 [.vs (aq .u8 b) .no] (.bc [TF ((wE b).getD []),.int .i64 e])/\((e==0)=(wE b).isSome):=by
 obtain⟨R,a⟩:=bb (wE b);rw[<-a];obtain⟨E,J⟩:∃E:V->Prop,∀v,E v↔∃e:Int,v=.bc [TF (R.getD []),.int .i64 e]/\((e==0)=R.isSome):=⟨_,λ_=>Iff.rfl⟩
 suffices hs:∃r,FP G 476 [.vs (aq .u8 b) .no] r/\E r by
  obtain⟨r,h1,h2⟩:=hs;obtain⟨e,rfl,h3⟩:=(J r).1 h2;exact⟨e,h1,h3⟩
 have f:R=none->∀e:Int,(e==0)=false->E (.bc [.vs [] .no,.int .i64 e]):=λh e he=>(J _).2 ⟨e,by rw[h];rfl,by rw[h,he];rfl⟩;refine DA bD.agv (aab rfl) ?_;have Q:=zHf (G:=G) b P hl;have w:=zy1 P;have j4:=zE2 b;unfold wE at a;obtain⟨c,K⟩:=bb ((oZ b).1);obtain⟨p,T⟩:=bb ((oZ b).2);rw[<-K,<-T] at Q;rw[<-K] at w j4;rw[<-K,<-T] at a;simp;refine aw Q ?_
 by_cases U:p=0
 rotate_left
 .have o:R=none:=by rw[a,if_pos (Or.inl U)]
  have g:((p:Int) !=0)=true:=by simp;omega
  have j:=f o p (by simp;omega);simp[g];exact j
 have g:((p:Int) !=0)=false:=by simp;omega
 by_cases h4:c.length<=4
 .have o:R=none:=by rw[a,if_pos (Or.inr (Or.inl h4))]
  have F:((c.length:Int)<=4)=True:=ah7;have j:=f o 2 rfl;simp[g,F];exact j
 have F:((c.length:Int)<=4)=False:=ah8;have W:((4:Int)<=(c.length:Int))=True:=ah7;have X:=Qc (c.take 4) (λx m=>w x (aan m))
 by_cases H:c.take 4=Cu
 rotate_left
 .have o:R=none:=by rw[a,if_pos (Or.inr (Or.inr H))]
  have A:((c.take 4).map aaY==[72,82,84,49])=false:=by rw[beq_eq_false_iff_ne];exact λh=>H (zjR (λx m=>w x (aan m)) ah9 h)
  rw[ab3] at A;have j:=f o 2 rfl;simp[g,F,W,yH,X,A];exact j
 have A:((c.take 4).map aaY==[72,82,84,49])=true:=by rw[H];rfl
 rw[ab3] at A;rw[if_neg (by simp[U,H];omega)] at a;obtain⟨n,o⟩:∃n,c[4]?=some n:=⟨_,aaf an⟩;have fn:=(aae.1 o).2;have ha:=w n (aah o);rw[aak,o,aaU] at a;have cn:fc .i64 n=(n:Int):=IntWalk.i64_in _ ⟨an,an⟩;have h5:((5:Int)<=(c.length:Int))=True:=ah7
 have l4:4<c.length:=an
 have Y:(c.drop 5).take (c.length-5)=c.drop 5:=aaA (by rw[aaG];omega);obtain⟨d,hd⟩:=bb (c.drop 5);rw[<-hd] at a Y
 have hf:(aq .u8 c).drop 5=aq .u8 d:=by rw[CR,<-hd]
 have L:∀x∈d,x<256:=λx m=>w x (aaq (by rw[hd] at m;exact m))
 have mP:d.length<=1000000:=by rw[hd,aaG];omega
 simp[g,F,W,yH,X,A,fn,l4,cn,h5,CR,<-hd,Y];obtain⟨M,B⟩:=bb (Hg n d []);rw[<-B] at a
 refine u5 (S:=Nat×List Nat×List TR) (λs=>n-s.1) (λs=>[(0,.vs (aq .u8 s.2.1) .no),(5,.vs (TL s.2.2) (.own 0)),(33,.int .i64 n),(34,.int .i64 (s.1:Nat))]) (λs=>[some (.zone s.2.2.length)])
  (λs=>s.1<=n/\s.2.2.length=s.1/\(∀x∈s.2.1,x<256)/\s.2.1.length<=1000000/\(∀r∈s.2.2,r.ok)/\Hg (n-s.1) s.2.1 s.2.2=M) (0,d,[]) ?_ ?_
 .refine⟨⟨abv _,rfl,L,mP,ir,B.symm⟩,?_,?_⟩
  .simp[av,TL]
  .simp[ak]
 rintro⟨i,x,t⟩ ⟨p1,p2,p3,p4,N,l⟩;simp only at p1 p2 p3 p4 N l |-
 by_cases ah:i<n
 .have u:((i:Int)<(n:Int))=True:=ah7;obtain⟨k,hk⟩:∃k,n-i=k+1:=⟨n-i-1,an⟩;obtain⟨r,q,C,Z⟩:=zCF (G:=G) x p3 p4;rw[hk] at l;unfold Hg at l;simp only[TV,TR.cs] at C
  cases O:uX x with
  | none =>
   rw[O] at l C;simp only at l;rw[<-l] at a;have j:=f a 2 rfl;simp[u];refine aw C ?_;simp
   exact j
  | some y =>
   rw[O] at l C Z;obtain⟨y1,y2⟩:=y;obtain⟨e1,e2⟩:=Z y1 y2 rfl;subst e1;subst e2;obtain⟨o1,o2,o3⟩:=zy0 p3 O;simp only at l;have ju:((t.length+1)*56<=140737488355328)=True:=ah7;have dD:=Qj t;have eK:TL t++[r.cs]=TL (t++[r]):=U3 t r
   have a1:aC .i64 i 1=(i+1:Nat):=qq
   simp only[TR.cs] at eK;simp[u];refine aw C ?_;simp[ju,dD,eK,a1,-aaa];refine⟨(i+1,q,t++[r]),by simp only;omega,⟨by simp only;omega,by simp;omega,o2,by simp only;omega,?_,by simp only[show n-(i+1)=k by omega];exact l⟩,?_,?_⟩
   .intro z hz
    rcases aaJ.1 hz with hz|hz
    .exact N z hz
    .rw[aa7.1 hz];exact o1
   .simp[av]
   .simp[ak,ay.cl]
 .have jl:i=n:=an
  subst jl;have u:((i:Int)<(i:Int))=False:=ah8;rw[ab6] at l;rw[<-l] at a;simp only[Hg] at a;have D:=Qh (G:=G) t an N;simp only[TF] at D
  by_cases m:x=[]
  .subst m
   cases I:eh t with
   | true =>
    rw[I] at D;simp only[I,and_self,if_true] at a;have j:E (.bc [.vs (TL t) .no,.int .i64 0]):=(J _).2 ⟨0,by rw[a];rfl,by rw[a];rfl⟩;simp[u,aq];refine aw D ?_;simp
    exact j
   | false =>
    rw[I] at D;simp only[I,and_false,if_false,Bool.false_eq_true] at a;have j:=f a 2 rfl;simp[u,aq];refine aw D ?_;simp;exact j
  .have hp:=abg.2 m;have iM:((0:Int)<(x.length:Int))=True:=ah7;have Xv:0<x.length:=hp;simp only[m,false_and,if_false] at a;have j:=f a 2 rfl;simp[u,Xv];exact j
def zFJ(t:List TR):List Nat:=Cu++[t.length%256]++t.flatMap TR.ud
def AH(t:List TR):List Nat:=He (zFJ t)
def zwV(r:TR):r.ud.length=6+8*r.fr.length+8*r.to.length:=by simp only[TR.ud,aaD,Hd];simp[cV]
def zo0:∀{l:List Nat},(∀b∈l,b<256)->rj (l.map aaY)=aq .u8 l
 | [],_=>rfl
 | b::l,h=>by
  have a:=zo0 (l:=l) λc d=>h c (by simp[d]);have f:=h b ir
  have e:(aaY b).toNat=b:=by rw[abH];omega
  simp only[rj,aq,abf,e] at a |-;rw[a]
def zAa[aE G][aD G][aQ G][ej G][cS G][bD G](t:List TR)(g:eh t=true)(o:∀r∈t,r.ok):FP G 477 [TF t] (.bc [.vs (aq .u8 (AH t)) .no,.int .i64 0]):=by
 refine bw bD.agw (aab rfl) ?_;have Q:t.length<=64:=(Qg g).2;have k:=Qh (G:=G) t an o;rw[g] at k
 have p:∀r∈t,r.may=true:=λr b=>by
  simp only[eh,aai] at g;exact aav.1 g.1.1 r b
 obtain⟨T,c⟩:∃T:Nat->List Nat,∀j,T j=Cu++[t.length%256]++(t.take j).flatMap TR.ud:=⟨_,λ_=>rfl⟩
 have q:T 0=[72,82,84,49,t.length%256]:=by rw[c];rfl
 have A:zFJ t=T t.length:=by rw[c,aaE];rfl
 have s:∀i r,t[i]?=some r->T (i+1)=T i++r.ud:=λi r h=>by rw[c,c,aap,h,aby,List.flatMap_append];simp
 have u:∀r∈t,r.ud.length<=600:=λr b=>by
  have:=JZ (p r b);rw[zwV];omega
 have v:∀j,j<=t.length->(T j).length<=5+600*j:=by
  intro j
  induction j with
  | zero=>intro _;rw[q];simp
  | succ j B =>
   intro R;have d:t[j]?=some t[j]:=aaf an;have:=B an;have:=u t[j] (aba _);rw[s j _ d,aaD];omega
 have l:∀j,∀x∈T j,x<256:=λj x a=>by
  rw[c] at a
  rcases aaJ.1 a with a|a
  .rcases aaJ.1 a with a|a
   .have:∀y∈Cu,y<256:=by decide
    exact this x a
   .rw[aa7.1 a];exact abA _ ah9
  .simp only[List.mem_flatMap] at a;obtain⟨r,_,b⟩:=a;exact zwS r x b
 have C:=zyZ (G:=G) (T t.length) (l _) (by have:=v t.length (aaI _);omega);rw[AH,A];have D:=Mn t.length;simp only[TF] at k;have E:qa 1 4 [V.int .u8 72,.int .u8 82,.int .u8 84,.int .u8 49]=[[V.int .u8 72],[V.int .u8 82],[V.int .u8 84],[V.int .u8 49]]:=rfl;simp[TF];refine aw k ?_;simp[D,E,-aaF];refine aO t.length (λi=>[(4,.vs (aq .u8 (T i)) (.own 1)),(17,.vs (TL t) .no),(18,.int .i64 t.length),(19,.int .i64 i)]) (λi=>[some (.zone 1),some (.zone (T i).length)]) (λ_=>True) ?_ ?_
 .simp[av,ak,ay.cl,V.cl,Tk.cl,q,aq]
 intro i hi _
 rcases aaj hi with F|w
 .subst F;simp;refine aw C ?_;simp
 .obtain⟨r,b⟩:∃r,t[i]?=some r:=⟨_,aaf w⟩;have m:=aah b;have d:=JX b;have H:=(aae.1 d).2;have I:((i:Int)<(t.length:Int))=True:=ah7;have n:=(Qd (G:=G) r (o r m) (p r m) [] zoY).fp;rw[zCA] at n
  have J:aC .i64 i 1=(i+1:Nat):=qq
  have e:=s i r b;have S:=v i hi;have U:=u r m;have K:((T i).length+r.ud.length<=140737488355328)=True:=ah7;have L:=zo0 (zwS r)
  have M:aq .u8 r.ud≠[]:=by intro h;have:=congrArg ab9 h;rw[zpS,zwV] at this;simp at this
  have N:aq .u8 (T i)++aq .u8 r.ud=aq .u8 (T (i+1)):=by rw[e];simp[aq]
  have O:(∀f∈aq .u8 r.ud,f.length=1)=True:=by simp only[eq_iff_iff,iff_true];intro f z;simp only[aq,aaQ] at z;obtain⟨_,_,rfl⟩:=z;rfl
  have P:(T (i+1)).length=(T i).length+r.ud.length:=by rw[e,aaD]
  simp only[TV,TR.cs] at n d H;simp[I,d];refine aw n ?_;simp[L,M,O,N,P,K,J,w,av,ak,ay.cl,V.cl,Tk.cl,-aaa]
def J2(f:List af)(a n:Nat):Nat:=fN (nd (f.drop (a+n))) 18
def xb(f:List af)(a n:Nat):List af:=(f.drop a).take n
noncomputable def zg(w:List af)(t:List TR)(live:Nat)(tries:Int):Option (List af) :=
 match Cr t w live with
 | some x=>if a_ x=true/\(ey w x live).1=0 then some x else ig w live tries
 | none=>ig w live tries
noncomputable def tj(f:List af)(t:List TR)(tries:Int)(p:Pc):Option (List af×List TR) :=
 (zg (xb f p.1 p.2) t (J2 f p.1 p.2) tries).map λx=>(eZ f p.1 p.2 x,(q6 t ⟨xb f p.1 p.2,x,J2 f p.1 p.2⟩).1)
noncomputable def yh(f:List af)(t:List TR)(tries most:Int):Option (List af×List TR):=(rows f most f.length).findSome? (tj f t tries)
noncomputable def vu(tries most:Int):Nat->List af->List TR->(List af×List TR)×Nat×Bool
 | 0,f,t=>((f,t),0,false)
 | k+1,f,t=>match yh f t tries most with
  | none=>((f,t),0,true)
  | some q=>((vu tries most k q.1 q.2).1,(vu tries most k q.1 q.2).2.1+1,(vu tries most k q.1 q.2).2.2)
def zCH{t:List TR}{w x:List af}{live:Nat}(h:Cr t w live=some x):∃r∈t,r.fr=w/\r.to=x/\r.may=true:=by
 unfold Cr at h;split at h
 .rename_i a;rw[abk] at h;obtain⟨r,b,e⟩:=h;have c:=List.find?_some b;have d:=List.mem_of_find?_eq_some b;simp only[aai,decide_eq_true_eq] at c;simp only[eh,aai] at a;exact⟨r,d,c.1,e,aav.1 a.1.1 r d⟩
 .cases h
def zqT{w x:List af}{t:List TR}{live:Nat}{tries:Int}(i:∀y∈w,y.k<4294967296)(a:a_ w=true)(j:∀r∈t,∀y∈r.to,y.k<4294967296)(h:zg w t live tries=some x) :
  a_ x=true/\x.length<w.length/\(ey w x live).1=0/\∀y∈x,y.k<4294967296:=by
 have l:w.length<=32:=by simp only[a_,aai,decide_eq_true_eq] at a;exact a.1
 have d:ig w live tries=some x->a_ x=true/\x.length<w.length/\(ey w x live).1=0/\∀y∈x,y.k<4294967296:=λh=>by
  obtain⟨k,_,m,n,_⟩:=zEO h;have b:=aah m;exact⟨zEP zxI b l,UU b,n,λy c=>zr4 i a y (UW b y c)⟩
 unfold zg at h;split at h
 .rename_i y c;split at h
  .rename_i e;cases h;obtain⟨r,o,p,f,g⟩:=zCH c;simp only[TR.may,aai,decide_eq_true_eq] at g;exact⟨e.1,by rw[<-p,<-f];exact g.1.2,e.2,by rw[<-f];exact j r o⟩
  .exact d h
 .exact d h
def mc(t:List TR):Prop:=∀r∈t,(∀y∈r.fr,y.k<4294967296)/\(∀y∈r.to,y.k<4294967296)/\r.lv<4294967296
structure adm (f:List af) (t:List TR) (f':List af) (t':List TR):Prop where
 sound:du f'=true
 k:∀y∈f',y.k<4294967296
 len:f'.length<f.length
 run:∀d:Da,d.ok->(run d f' qn).1=(run d f qn).1/\((∀y∈f,y.op≠60)->(run d f' qn).2<=(run d f qn).2)
 adn:(∀y∈f,y.op≠60)->∀y∈f',y.op≠60
 all:qK f->qK f'
 tk:mc t'
 dC:eh t=true->eh t'=true/\t.length<=t'.length/\t'.length<=t.length+1/\∀r∈t',r∈t\/a_ r.fr=true/\a_ r.to=true/\(ey r.fr r.to r.lv).1=0
def zy2{t:List TR}{r:TR}(b:mc t)(c:∀y∈r.fr,y.k<4294967296)(d:∀y∈r.to,y.k<4294967296)(e:r.lv<4294967296):mc (q6 t r).1:=by
 unfold q6;split
 .split
  .exact b
  .split
   .exact b
   .intro x a;rw[aaJ,aaH] at a
    rcases a with a|rfl|a
    .exact b x (aan a)
    .exact⟨c,d,e⟩
    .exact b x (aaq a)
 .exact b
structure ado (f:List af) (t:List TR) (f':List af) (t':List TR):Prop where
 sound:du f'=true
 k:∀y∈f',y.k<4294967296
 len:f'.length<f.length
 tk:mc t'
 dC:eh t=true->eh t'=true
def zwW{f c:List af}{t d:List TR}{tries most:Int}(s:du f=true)(g:∀y∈f,y.k<4294967296)(i:mc t)(h:yh f t tries most=some (c,d)):ado f t c d:=by
 obtain⟨p,u,b⟩:=abp h;obtain⟨C,j,D,E⟩:=UJ u;simp only[r_,Cl,vq,Ck,aai,decide_eq_true_eq] at j;obtain⟨⟨_,_⟩,_,⟨F,G,H,I⟩,a⟩:=j
 have a:th f p.1 p.2=true:=by simpa using a
 have l:p.1+p.2<=f.length:=an
 unfold tj at b;rw[abk] at b;obtain⟨x,v,e⟩:=b;cases e
 have J:(xb f p.1 p.2).length=p.2:=by rw[xb,aao,aaG];omega
 have m:∀y∈xb f p.1 p.2,y.k<4294967296:=P3 g _ _
 have n:a_ (xb f p.1 p.2)=true:=by simp only[th,aai] at a;exact a.1
 have w:J2 f p.1 p.2<262144:=vV _ 18;obtain⟨o,K,L,q⟩:=zqT m n (λr z=>(i r z).2.1) v
 have A:x.length<=p.2:=an
 refine⟨zus s a an l o A,zFE g q,by rw[UK l];omega,zy2 i m q (by simp only;omega),λB=>?_⟩
 exact(zwQ B (by
  simp only[TR.may,n,o,abF,aai,decide_eq_true_eq]
  exact⟨an,w⟩)).1
def zE3{f H:List af}{t I:List TR}{tries most:Int}(o:du f=true)(A:∀y∈f,y.k<4294967296)(J:mc t)(h:yh f t tries most=some (H,I)):adm f t H I:=by
 obtain⟨p,N,B⟩:=abp h;obtain⟨Dp,K,h2,zY⟩:=UJ N;simp only[r_,Cl,vq,Ck,aai,decide_eq_true_eq] at K;obtain⟨⟨_,_⟩,_,⟨i1,i2,i3,i4⟩,g⟩:=K
 have g:th f p.1 p.2=true:=by simpa using g
 have u:0<p.2:=an
 have m:p.1+p.2<=f.length:=an
 have zd:=zur o g u m;unfold tj at B;rw[abk] at B;obtain⟨x,L,e⟩:=B;cases e;obtain⟨P,j⟩:=bb (xb f p.1 p.2)
 have O:P.length=p.2:=by rw[j,xb,aao,aaG];omega
 have v:∀y∈P,y.k<4294967296:=by rw[j];exact P3 A _ _
 have l:a_ P=true:=by rw[j];simp only[th,aai] at g;exact g.1
 obtain⟨live,C⟩:=bb (J2 f p.1 p.2)
 have Q:live<262144:=by rw[C];exact vV _ 18
 rw[<-j,<-C] at L |-;obtain⟨b,w2,c,n⟩:=zqT v l (λr D=>(J r D).2.1) L
 have E:x.length<=p.2:=an
 have R:∀(d:Da),d.ok->∀s:St,s.ok->wu P x live s d=false:=λd hd s S=>by
  rcases mj (live:=live) l b with⟨_,h⟩|⟨r,h,_⟩|⟨h,_⟩
  .exact zCe v n S hd l b h
  .rw[h] at c;cases c
  .rw[h] at c;cases c
 have T:kp P P.length=kp x x.length:=by
  rcases mj (live:=live) l b with⟨_,h⟩|⟨r,h,_⟩|⟨h,_⟩
  .exact zCw v n l b h
  .rw[h] at c;cases c
  .rw[h] at c;cases c
 have M:∀y∈P,y∈f:=λy a=>by rw[j] at a;exact aaq (aan a)
 have U:(⟨P,x,live⟩:TR).may=true:=by simp only[TR.may,l,b,abF,aai,decide_eq_true_eq];exact⟨an,Q⟩
 refine⟨zus o g u m b E,zFE A n,by rw[UK m];omega,λd hd=>?_,λhd=>?_,λV=>zEU o g u m b E V,zy2 J v n (show live<4294967296 by omega),λW=>?_⟩
 .have:=zr1 (live:=live) o g u m b E A n hd (λq X F=>by
   rw[Ad,zGi,C,J2,BD];simp[X,F]) (by show ∀s:St,s.ok->wu (xb f p.1 p.2) x live s d=false;rw[<-j];exact R d hd) f.length 0 qn an an (.inl (abv _)) Uk
  rw[if_pos (abv _),abu,abu] at this;refine⟨this.1,λF=>?_⟩
  rcases this.2 with h|h
  .exact h
  .exfalso;have z:=(zjQ (w:=P)).2 λy a=>F y (M y a);rw[O] at z;change 0<kp (xb f p.1 p.2) p.2 at h;rw[<-j] at h;omega
 .have z:=(zjQ (w:=P)).2 λy a=>hd y (M y a);rw[T] at z;have G:=zjQ.1 z;intro y a;simp only[eZ,aaJ] at a
  rcases a with(a|a)|a
  .simp only[pre,aaQ,ab2] at a;obtain⟨i,hi,rfl⟩:=a;rw[Mf];rw[List.getD,aaf (show i<f.length by omega)];exact hd _ (aba _)
  .exact G y a
  .exact hd y (aaq a)
 .obtain⟨Y,Z,l3,l4⟩:=zwQ W U;refine⟨Y,Z,l3,λr D=>?_⟩
  rcases l4 r D with h|rfl
  .exact .inl h
  .exact .inr ⟨l,b,c⟩
structure Hi (f:List af) (t:List TR) (q:(List af×List TR)×Nat×Bool):Prop where
 sound:du q.1.1=true
 k:∀y∈q.1.1,y.k<4294967296
 len:q.1.1.length<=f.length
 run:∀d:Da,d.ok->(run d q.1.1 qn).1=(run d f qn).1/\((∀y∈f,y.op≠60)->(run d q.1.1 qn).2<=(run d f qn).2)
 all:qK f->qK q.1.1
 tk:mc q.1.2
 dC:eh t=true->eh q.1.2=true/\t.length<=q.1.2.length/\q.1.2.length<=t.length+q.2.1/\∀r∈q.1.2,r∈t\/a_ r.fr=true/\a_ r.to=true/\(ey r.fr r.to r.lv).1=0
def zuB{tries most:Int}:∀(n:Nat) {f:List af} {t:List TR},du f=true->(∀y∈f,y.k<4294967296)->mc t->Hi f t (vu tries most n f t)
 | 0,f,t,c,e,g=>⟨c,e,aaI _,λd _=>⟨rfl,λ_=>aaI _⟩,id,g,λh=>⟨h,aaI _,by simp[vu],λr a=>.inl a⟩⟩
 | n+1,f,t,c,e,g=>by
  unfold vu
  cases a:yh f t tries most with
  | none=>exact⟨c,e,aaI _,λd _=>⟨rfl,λ_=>aaI _⟩,id,g,λh=>⟨h,aaI _,ir,λr a=>.inl a⟩⟩
  | some q =>
   have k:=zE3 c e g a;have b:=zuB (tries:=tries) (most:=most) n k.sound k.k k.tk;simp only[];refine⟨b.sound,b.k,by have:=b.len;have:=k.len;simp only;omega,λd hd=>?_,λp=>b.all (k.all p),b.tk,λs=>?_⟩
   .obtain⟨i,l⟩:=b.run d hd;obtain⟨j,m⟩:=k.run d hd;exact⟨i.trans j,λo=>aau (l (k.adn o)) (m o)⟩
   .obtain⟨j,m,w,u⟩:=k.dC s;obtain⟨i,l,x,v⟩:=b.dC j;refine⟨i,by simp only;omega,by simp only;omega,λr a=>?_⟩
    rcases v r a with h|h
    .exact u r h
    .exact .inr h
def q7(b lo hi:Int):Int:=max lo (min b hi)
def zte[fj G](b lo hi:Int):FP G 360 [.int .i64 b,.int .i64 lo,.int .i64 hi] (.int .i64 (q7 b lo hi)):=by refine bw fj.afu (aab rfl) ?_;simp[q7];omega
def zE4[fj G](a b c:Int):FP G 361 [.agg [.int .i64 a,.int .i64 b,.int .i64 c]] (.agg [.int .i64 (q7 a 0 1000),.int .i64 (q7 b 0 1000),.int .i64 (q7 c 0 32)]):=by refine bw fj.afv (aab rfl) ?_;simp;refine aw (zte _ _ _) ?_;simp;refine aw (zte _ _ _) ?_;simp;refine aw (zte _ _ _) ?_;simp
def jU(t:List TR):List TR:=if eh t=true then t else []
def zHh[aE G][aD G][aQ G][ej G][cS G][fj G](t:List TR)(c:t.length<=1000000)(d:∀r∈t,r.ok):FP G 362 [TF t] (TF (jU t)):=by
 refine bw fj.afw (aab rfl) ?_;have a:=Qh (G:=G) t c d;simp only[TF] at a;simp[TF];refine aw a ?_
 cases b:eh t with
 | false=>simp[jU,b,TL]
 | true=>simp[jU,b]
def zAb[dT G][dy G][aE G][aD G][bQ G][dx G][cW G][aQ G][cY G][cZ G][bY G][cu G][bS G][au G][Q:dU G][cB G][aN G][de G][bZ G][cQ G][eT G][ga G][fI G][fJ G][iQ G][ej G][cS G][fj G]
  (w:List af) (t:List TR) (live:Nat) (tries:Int) (g:a_ w=true) (u:∀x∈w,x.k<4294967296) (I:t.length<=1000000) (v:∀r∈t,r.ok) (i:live<4294967296) :
  FP G 363 [FL w,TF t,.int .u32 live,.int .i64 tries] (pV (zg w t live tries)):=by
 refine bw fj.afx (aab rfl) ?_;have y:=zEZ (G:=G) t w live I v i;have J:=(Mp g).1;have a:w.length<=maxLen:=aau J ah9;have j:=zHa (G:=G) w live tries a u g i;simp only[FL,TF] at y j;simp[FL,TF];refine aw y ?_
 cases d:Cr t w live with
 | none =>
  have b:zg w t live tries=ig w live tries:=by rw[zg,d]
  rw[b];simp[pV];refine aw j ?_
  cases ig w live tries<;>simp[pV]
 | some x =>
  obtain⟨r,K,R,z,l⟩:=zCH d;have C:=(v r K).2.2.2.1;have D:=(JZ l).2;rw[z] at C D;have E:=zup (G:=G) w x live a (aau D ah9) u C i
  have c:a_ x=true:=by simp only[TR.may,aai] at l;rw[<-z];exact l.1.1.2
  simp only[FL,g,c,Bool.and_self,if_true] at E;simp[pV];refine aw E ?_;obtain⟨A,F⟩:=bb (dP 0 none)
  have L:A.length=28:=by rw[F];rfl
  obtain⟨e,B,m,M,N,O,H⟩:∃(e:Int) (B:List V),(ey w x live).1=e/\B=dP (ey w x live).1 (ey w x live).2/\(∀n,aZ n B=B)/\B.length=28/\B.take 1=[.int .i64 (ey w x live).1] :=
   ⟨_,_,rfl,rfl,λn=>Ux _ _ n,zwF w x live,zyN _ _⟩
  have o:V.int .i64 0::(ax .u32 (aR 20)++ax .u64 (aR 7))=A:=by rw[F];rfl
  have p:B.take 28=B:=aaA an;have q:B.drop 28=[]:=aa2 an;have s:A.drop 28=[]:=aa2 an;rw[<-M];rw[m] at H;simp[o,s,p,q,L,O,H,N]
  by_cases f:e=0
  .have b:zg w t live tries=some x:=by rw[zg,d];simp only[];rw[if_pos ⟨c,by rw[m,f]⟩]
   simp[f,b,pV]
  .have b:zg w t live tries=ig w live tries:=by rw[zg,d];simp only[];rw[if_neg (by rintro⟨_,h⟩;rw[m] at h;exact f h)]
   have P:(e==0)=false:=aG f;rw[b];simp[P];refine aw j ?_
   cases ig w live tries<;>simp[pV]
def o6(f:List af)(t:List TR)(n:Nat)(d:Bool):List V:=[FL f,TF t,.int .i64 n,.bool d]
def Ai(f:List af)(t:List TR):Option (List af×List TR)->V
 | some q=>.bc [.agg (o6 q.1 q.2 1 false),.bool true]
 | none=>.bc [.agg (o6 f t 0 true),.bool false]
def U8(t:List TR):Prop:=t.length<=1000000/\∀r∈t,r.ok
def zAc[dT G][dy G][aE G][aD G][bQ G][dx G][cW G][aQ G][cY G][cZ G][bY G][cu G][bS G][au G][CB:dU G][cB G][aN G][de G][bZ G][cQ G][eT G][ga G][fI G][fJ G][iQ G][dh G][fK G][eJ G][ej G][cS G][fj G]
  (f:List af) (t:List TR) (O tries most:Int) (Q:du f=true) (u:∀x∈f,x.k<4294967296) (g:U8 t) (hm:0<=most/\most<=32) :
  FP G 364 [FL f,TF t,.agg [.int .i64 O,.int .i64 tries,.int .i64 most]] (Ai f t (yh f t tries most)):=by
 refine bw fj.afy (aab rfl) ?_;have z:=Mc Q;have R:f.length<=maxLen:=aau z ah9;have A:=zCh (G:=G) f most R u an;obtain⟨L,v⟩:=bb (rows f most f.length)
 have QY:L.length<=200000:=by have:=zqQ f most f.length;rw[v];omega
 rw[<-v] at A
 have S:yh f t tries most=L.findSome? (tj f t tries):=by rw[yh,v]
 simp only[FL] at A;simp[FL,TF];refine aw A ?_;simp
 refine aO L.length (λi=>[(0,FL f),(1,TF t),(5,.ptr 0 0),(6,.ptr 1 0),(24,.vs (w_ L) .no),(25,.int .i64 L.length),(26,.int .i64 i)])
  (λ_=>[some (.cells [.int .i64 O,.int .i64 tries,.int .i64 most]),some (.cells [.vs [] .full,.vs [] .full,.int .i64 0,.bool false])]) (λi=>∀j<i,∀p,L[j]?=some p->tj f t tries p=none) ?_ ?_
 .simp[av,ak,FL,TF]
 intro i hi B
 by_cases C:i<L.length
 .obtain⟨p,l⟩:=bb (L[i])
  have T:L[i]?=some p:=by rw[l];exact aaf C
  have D:p∈rows f most f.length:=by rw[<-v];exact aah T
  obtain⟨Dp,E,h2,zY⟩:=UJ D;have U:=E;simp only[r_,aai] at U;have m:=U.2;simp only[r_,Cl,vq,Ck,aai,decide_eq_true_eq] at E;obtain⟨⟨_,_⟩,_,⟨i1,i2,i3,i4⟩,d⟩:=E
  have d:th f p.1 p.2=true:=by simpa using d
  obtain⟨a,n⟩:=p;simp only at Dp h2 zY d i1 i2 i3 i4 m
  have qV:a+n<=f.length:=an
  obtain⟨x,V⟩:∃x,f[a+n-1]?=some x:=⟨_,aaf an⟩;have w:=zBd (G:=G) f (a+n-1) x V u Q
  have oE:∀x∈(f.drop a).take n,mX x=true:=by simp only[th,aai] at d;exact JQ d.1
  have L4:mX x=true:=oE x (by
   refine aah (i:=n-1) ?_;rw[abw,if_pos an,abb,show a+(n-1)=a+n-1 by omega]
   exact V)
  have PE:aY x=[0]:=by obtain⟨h5,eP,h6,pk⟩:=P6 L4;simp[aY,fW,h5,eP,h6,pk]
  rw[PE,zIE,show a+n-1+1=a+n by omega] at w;obtain⟨live,F⟩:=bb (J2 f a n)
  have W:live<4294967296:=by rw[F];exact Nat.lt_of_lt_of_le (vV _ 18) ah9
  rw[show fN (nd (f.drop (a+n))) 18=live from F.symm] at w;obtain⟨P,e⟩:=bb (xb f a n)
  have Fj:P.length=n:=by rw[e,xb,aao,aaG];omega
  have H:∀y∈P,y.k<4294967296:=by rw[e];exact P3 u a n
  have X:a_ P=true:=by rw[e,xb];simp only[th,aai] at d;exact d.1
  have Y:=zAb (G:=G) P t live tries X H g.1 g.2 W;have e1:aC .i64 a (n:Int)=((a+n:Nat):Int):=qA an
  have e2:bO .i64 ((a+n:Nat):Int) 1=((a+n-1:Nat):Int):=by rw[nW]<;>omega
  have Z:((IL f).drop a).take n=IL P:=by rw[zs0,zs1,e,xb]
  have U_:((IL f).take (a+n)).drop a=IL P:=by rw[zs1,zs0,e,xb,List.drop_take];congr 2;omega
  have Ft:((IL f).drop a).take (a+n-a)=IL P:=by rw[show a+n-a=n by omega];exact Z
  have Tm:L[i]=(a,n):=l.symm;have c1:((a:Int)<=((a+n:Nat):Int))=True:=ah7;have c2:(((a+n:Nat):Int)<=(f.length:Int))=True:=ah7
  have Lq:tj f t tries (a,n)=(zg P t live tries).map λx=>(eZ f a n x,(q6 t ⟨P,x,live⟩).1):=by rw[tj,<-e,<-F]
  simp only[FL,TF] at w Y;simp(disch:=omega)[bC,aB,Tm,FL,TF,e1,e2,c1,c2,Ft,-aaa];refine aw w ?_;simp(disch:=omega)[Z];refine aw Y ?_
  cases I:zg P t live tries with
  | none =>
   have vp:∀j<i+1,∀p,L[j]?=some p->tj f t tries p=none:=λj b p c=>by
    rcases aa_.1 b with h|rfl
    .exact B j h p c
    .rw[T] at c;cases c;rw[Lq,I];rfl
   simp(disch:=omega)[pV,C,bA,av,ak,FL,TF,-aaa]
   exact λj b p q c=>vp j b (p,q) c
  | some y =>
   obtain⟨w1,w2,w3,w4⟩:=zqT H X (λr o=>(g.2 r o).2.2.2.1) I;have Qr:=(Mp w1).1
   have J:UG f a n y=true:=by simp only[UG,m,w1,abF,decide_eq_true_eq];omega
   have Qs:=zIA (G:=G) f y a n R (aau Qr ah9) u w4 J;obtain⟨r,o⟩:∃r:TR,r=⟨P,y,live⟩:=⟨_,rfl⟩
   have U4:r.ok:=by rw[o];exact⟨aau (show P.length<=32 by omega) ah9,aau Qr ah9,H,w4,W⟩
   have K:=zCD (G:=G) t r g.1 g.2 U4
   have Is:TV r=.agg [.vs (IL P) .no,.vs (IL y) .no,.int .u32 live]:=by rw[o];rfl
   rw[Is] at K
   have M:yh f t tries most=some (eZ f a n y,(q6 t r).1):=by
    rw[S]
    have lW:L=L.take i++(a,n)::L.drop (i+1):=by have:=aaK C;rw[Tm] at this;rw[<-this,List.take_append_drop]
    exact List.findSome?_eq_some_iff.2 ⟨L.take i,(a,n),L.drop (i+1),lW,by rw[Lq,I,o];rfl,λp c=>by
     obtain⟨j,b⟩:=aaZ c;rw[abw] at b;split at b
     .rename_i wO;exact B j wO p b
     .cases b⟩
   rw[M];simp only[FL,TF] at Qs K;simp[pV];refine aw Qs ?_;simp;refine aw K ?_
   by_cases s:(q6 t r).2=0
   .have N:((q6 t r).2==0)=true:=by simp[s]
    simp[N,Ai,o6,FL,TF]
   .have N:((q6 t r).2==0)=false:=aG s
    have vP:(q6 t r).1=t:=by
     unfold q6 at s |-;split
     .split
      .rfl
      .split
       .rfl
       .rename_i g1 g2 g3;rw[if_pos g1,if_neg g2,if_neg g3] at s;exact absurd rfl s
     .rfl
    simp[N,vP,Ai,o6,FL,TF]
 .have az:i=L.length:=an
  subst az
  have B9:yh f t tries most=none:=by rw[S,List.findSome?_eq_none_iff];intro p c;obtain⟨j,b⟩:=aaZ c;exact B j (aae.1 b).1 p b
  rw[B9];simp[Ai,o6,FL,TF]
def uY(f:List af)(a:Nat)(m:List Bool):List Bool :=
 if h:a<f.length then
  if m.getD a false=true then m
  else if fW (f[a]'h).op=true then m.set a true
  else if(f[a]'h).op=5 then uY f (a+1+(f[a]'h).k) (m.set a true)
  else if aX (f[a]'h).op=true then uY f (a+1+(f[a]'h).jf.toNat) (uY f (a+1+(f[a]'h).jt.toNat) (m.set a true))
  else uY f (a+1) (m.set a true)
 else m
termination_by f.length-a
def oh(m:List Bool)(i:Nat):Prop:=m[i]?=some true
structure Mt (f:List af) (a:Nat) (m m':List Bool):Prop where
 len:m'.length=m.length
 mono:∀i,oh m i->oh m' i
 at':oh m' a
 cls:∀i x,oh m' i->¬oh m i->f[i]?=some x->∀o∈aY x,oh m' (i+1+o)
 min:∀i,oh m' i->¬oh m i->i=a\/∃j x o,f[j]?=some x/\oh m' j/\o∈aY x/\j+1+o=i
def Mr{m:List Bool}{a i:Nat}(b:a<m.length):oh (m.set a true) i↔i=a\/oh m i:=by
 unfold oh
 by_cases e:a=i
 .subst e;rw[List.getElem?_set_self b];simp
 .rw[List.getElem?_set_ne e];constructor
  .exact .inr
  .rintro(h|h)
   .exact absurd h.symm e
   .exact h
def Mt.refl{f:List af}{a:Nat}{m:List Bool}(h:oh m a):Mt f a m m:=⟨rfl,λ_ h=>h,h,λi x b c=>absurd b c,λi b c=>absurd b c⟩
def Mt.one{f:List af}{a:Nat}{m b:List Bool}{x:af}(d:a<m.length)(n:f[a]?=some x)(p:b.length=m.length)(c:∀i,oh (m.set a true) i->oh b i)
  (nx:∀o∈aY x,oh b (a+1+o)) (g:∀i y,oh b i->¬oh (m.set a true) i->f[i]?=some y->∀o∈aY y,oh b (i+1+o))
  (min:∀i,oh b i->¬oh (m.set a true) i->∃j y o,f[j]?=some y/\oh b j/\o∈aY y/\j+1+o=i):Mt f a m b:=by
 have q:oh b a:=c a ((Mr d).2 (.inl rfl));refine⟨p,λi hi=>c i ((Mr d).2 (.inr hi)),q,λi y hi k l=>?_,λi hi k=>?_⟩
 .by_cases e:i=a
  .subst e;rw[n] at l;cases l;exact nx
  .exact g i y hi (λh=>((Mr d).1 h).elim e k) l
 .by_cases e:i=a
  .exact .inl e
  .exact .inr (min i hi λh=>((Mr d).1 h).elim e k)
def Qt{f:List af}(z:du f=true):∀(n a:Nat) (m:List Bool),f.length-a<=n->a<f.length->m.length=f.length->Mt f a m (uY f a m)
 | 0,a,m,d,c,_=>by omega
 | n+1,a,m,d,c,I=>by
  have l:f[a]?=some f[a]:=aaf c;have r:=λo h=>Ei (o:=o) z l h;obtain⟨x,D⟩:=bb (f[a]);rw[<-D] at l r;rw[uY,dif_pos c,<-D]
  by_cases p:m.getD a false=true
  .rw[if_pos p];refine .refl ?_;rw[aak] at p;unfold oh
   cases E:m[a]? with
   | none=>rw[E] at p;cases p
   | some b=>rw[E] at p;simp at p;rw[p]
  rw[if_neg p]
  have t:a<m.length:=an
  have C:(m.set a true).length=f.length:=by rw[abV,I]
  by_cases A:fW x.op=true
  .rw[if_pos A];refine Mt.one t l ir (λ_ h=>h) (λo h=>?_) (λi y d c=>absurd d c) (λi d c=>absurd d c);simp[aY,A] at h
  rw[if_neg A]
  have F:fW x.op=false:=by simpa using A
  have u:∀o,aY x=[o]->Mt f a m (uY f (a+1+o) (m.set a true)):=λo e=>by
   have J:=r o (by rw[e];simp);have k:=Qt z n (a+1+o) (m.set a true) an J C;refine Mt.one t l (by rw[k.len];simp) k.mono (λq h=>?_) k.cls (λi d c=>?_)
   .rw[e,aa7] at h;subst h;exact k.at'
   .rcases k.min i d c with rfl|h
    .exact⟨a,x,o,l,k.mono a ((Mr t).2 (.inl rfl)),by rw[e];simp,rfl⟩
    .exact h
  by_cases v:x.op=5
  .rw[if_pos v]
   have K:fW (5:Int)=false:=by decide
   exact u x.k (by simp[aY,v,K])
  rw[if_neg v]
  by_cases B:aX x.op=true
  .rw[if_pos B]
   have w:aY x=[x.jt.toNat,x.jf.toNat]:=by simp[aY,F,v,B]
   have s:=Qt z n (a+1+x.jt.toNat) (m.set a true) an (r _ (by rw[w];simp)) C;have g:=Qt z n (a+1+x.jf.toNat) (uY f (a+1+x.jt.toNat) (m.set a true)) an (r _ (by rw[w];simp)) (by rw[s.len,C]);refine Mt.one t l (by rw[g.len,s.len];simp) (λi h=>g.mono i (s.mono i h)) (λq h=>?_) (λi y d c G o r=>?_) (λi d c=>?_)
   .rw[w] at h;simp only[aaH,abe,or_false] at h
    rcases h with rfl|rfl
    .exact g.mono _ s.at'
    .exact g.at'
   .by_cases hi:oh (uY f (a+1+x.jt.toNat) (m.set a true)) i
    .exact g.mono _ (s.cls i y hi c G o r)
    .exact g.cls i y d hi G o r
   .have H:oh (uY f (a+1+x.jf.toNat) (uY f (a+1+x.jt.toNat) (m.set a true))) a:=g.mono _ (s.mono a ((Mr t).2 (.inl rfl)))
    by_cases hi:oh (uY f (a+1+x.jt.toNat) (m.set a true)) i
    .rcases s.min i hi c with rfl|⟨j,y,o,L,M,N,O⟩
     .exact⟨a,x,_,l,H,by rw[w];simp,rfl⟩
     .exact⟨j,y,o,L,g.mono _ M,N,O⟩
    .rcases g.min i d hi with rfl|h
     .exact⟨a,x,_,l,H,by rw[w];simp,rfl⟩
     .exact h
  .rw[if_neg B];have:=u 0 (by simp[aY,F,v,B]);simpa using this
def pX(f:List af):List Bool:=uY f 0 (abi f.length false)
def zy3:∀{f:List af} {m:List Bool},f.length=m.length->(∀i x,oh m i->f[i]?=some x->∀o∈aY x,oh m (i+1+o))->lP f m
 | [],[],_,_=>trivial
 | [],_::_,h,_=>by simp at h
 | _::_,[],h,_=>by simp at h
 | x::f,b::m,h,c=>by
  refine⟨λd o a=>?_,zy3 (by simpa using h) λi y hi e o a=>?_⟩
  .have:=c 0 x (by rw[d];rfl) rfl o a;rw[show 0+1+o=o+1 by omega] at this;exact this
  .have:=c (i+1) y hi (by simpa using e) o a;rw[show i+1+1+o=(i+1+o)+1 by omega] at this;exact this
def Va{f:List af}(a:du f=true):(pX f).length=f.length/\lP f (pX f)/\(pX f)[0]?=some true/\Qa f (pX f):=by
 have d:0<f.length:=by
  have:=SP a
  cases f with
  | nil=>exact absurd rfl this
  | cons x f=>simp
 have k:=Qt a f.length 0 (abi f.length false) an d ir
 have b:∀i,¬oh (abi f.length false) i:=λi h=>by
  have:=aah h;rw[List.mem_replicate] at this;cases this.2
 have c:(pX f).length=f.length:=by rw[pX,k.len];simp
 refine⟨c,zy3 c.symm λi x hi e=>k.cls i x hi (b i) e,k.at',λi hi p=>?_⟩
 rcases k.min i hi (b i) with rfl|⟨j,x,o,g,l,m,n⟩
 .omega
 .exact⟨j,x,o,g,l,m,n⟩
def prune(f:List af):List af:=dO f (pX f)
def Vb{f:List af}(b:du f=true):du (prune f)=true/\(prune f).length<=f.length/\qK (prune f)/\∀d s,run d (prune f) s=run d f s:=by obtain⟨e,a,c,g⟩:=Va b;refine⟨zCo b a c,?_,zET a g,λd s=>zyQ d _ f _ s (aaI _) a c⟩;have:=List.countP_le_length (p:=id) (l:=pX f);rw[prune,JU f _ e.symm];omega
def zAd{f:List af}(a:du f=true)(b:qK f):prune f=f:=by obtain⟨e,c,d,g⟩:=Va a;exact zCv a c d b
def Vc:∀{f:List af} {m:List Bool} {y:af},y∈dO f m->∃x∈f,y.op=x.op/\(y.k=x.k\/y.k<=x.k)
 | x::f,true::m,y,h=>by
  rw[dO,aaH] at h
  rcases h with rfl|h
  .refine⟨x,ir,JT m x,?_⟩;unfold kS;split
   .exact .inr (Mg _ _)
   .split<;>exact .inl rfl
  .obtain⟨z,a,b⟩:=Vc h
   exact⟨z,by simp[a],b⟩
 | x::f,false::m,y,h=>by
  rw[dO] at h;obtain⟨z,a,b⟩:=Vc h
  exact⟨z,by simp[a],b⟩
 | [],_,_,h=>by simp[dO] at h
 | _::_,[],_,h=>by simp[dO] at h
def HM(f:List af)(m:List Bool):ae:=[some (.cells [FL f]),some (.cells (cb m)),some (.cells [.rs 1 0 f.length 1]),some (.cells [.fn 346 [.ptr 2 0,.ptr 0 0,.ptr 3 0]])]
def zHi(f:List af)(m:List Bool):iq (HM f m):=by intro n a;simp only[HM,aa1,abW] at a;simp[HM,FL,ay.cl,aZ,V.cl,Tk.cl,show 0<n by omega,show 1<n by omega,show 2<n by omega,show 3<n by omega]
def zy4[aE G][gP G]{f:List af}(J:du f=true)(Z:∀x∈f,x.k<4294967296)(hf:f.length<=maxLen):∀(n a:Nat) (m:List Bool) (r:ae),(∀n,r.map (Option.map (ay.cl n))=r)->f.length-a<=n->a<f.length->m.length=f.length ->
  SF G 346 [.int .i64 a,.ptr 2 0,.ptr 0 0,.ptr 3 0] (HM f m++r) (.bc []) (HM f (uY f a m)++r)
 | 0,a,m,r,_,h1,M,_=>by omega
 | n+1,a,m,r,hr,h1,M,h3=>by
  refine kr gP.afg (aab rfl) ?_;have e:∀m,(HM f m).length=4:=λm=>rfl;have g0:∀m (s:ae),(HM f m++s)[0]?=some (some (.cells [FL f])):=λm s=>rfl;have g1:∀m (s:ae),(HM f m++s)[1]?=some (some (.cells (cb m))):=λm s=>rfl;have g2:∀m (s:ae),(HM f m++s)[2]?=some (some (.cells [.rs 1 0 f.length 1])):=λm s=>rfl;have N:∀m (s:ae),(HM f m++s)[3]?=some (some (.cells [.fn 346 [.ptr 2 0,.ptr 0 0,.ptr 3 0]])):=λm s=>rfl
  have s1:∀m O (s:ae),(HM f m++s).set 1 (some (.cells (cb O)))=HM f O++s:=λm O s=>rfl
  have kk:∀m (s:ae),(HM f m++(r++s))[4+r.length]?=s[0]?:=λm s=>by
   rw[<-abj];exact oW (by simp[e])
  have k0:∀m (s:ae) y,(HM f m++(r++s)).set (4+r.length) y=HM f m++(r++s.set 0 y):=λm s y=>by
   rw[<-abj,tY (by simp[e]),abj]
  have p:∀m (s:ae),ak (4+r.length) (HM f m++(r++s))=HM f m++r:=λm s=>by
   have:=((zHi f m).app hr).back s;rw[abj,aaD,e] at this;exact this
  have g:0<4+r.length:=an
  have i:2<4+r.length:=an
  have j:3<4+r.length:=an
  obtain⟨R,hR⟩:=bb (uY f a m);rw[<-hR];simp[e];refine u5 (S:=Nat×List Bool) (λs=>f.length-s.1) (λs=>[(0,.int .i64 s.1),(1,.ptr 2 0),(2,.ptr 0 0),(3,.ptr 3 0)]) (λs=>HM f s.2++r) (λs=>uY f s.1 s.2=R/\s.1<f.length/\s.2.length=f.length/\a<=s.1) (a,m) ?_ ?_
  .have:=p m [];simp at this;simp[av,e,this,hR,M,h3,g,i,j]
  rintro⟨b,u⟩ ⟨d,E,hu,Gv⟩;simp only at d E hu Gv |-;have P:f[b]?=some f[b]:=aaf E;have F:=λo h=>Ei (o:=o) J P h;have kq:=Ld J P;obtain⟨x,K⟩:=bb (f[b]);rw[<-K] at P F kq;have q:x.cs.length=4:=rfl;have Q:x.cs.take 4=x.cs:=rfl;have eM:=sC E;rw[<-K] at eM;have v:u[b]?=some u[b]:=aaf an;obtain⟨t,ht⟩:=bb (u[b]'(by omega));rw[<-ht] at v;have H:=zH9 u b t v
  have b_:=SQ u b true an;rw[uY,dif_pos E,<-K] at d
  have vK:u.getD b false=t:=by rw[aak,v];rfl
  rw[vK] at d;have bu:=p u [];simp at bu;have l5:=hf;simp only[maxLen] at l5
  cases t with
  | true =>
   rw[if_pos rfl] at d;subst d
   simp(disch:=omega)[e,g0,g1,g2,N,H,aB,gV,bu]
  | false =>
   rw[if_neg ir] at d;simp(disch:=omega)[e,g0,g1,g2,N,H,aB,gV,b_,s1,FL,eM,q,Q,kk,k0];refine aw (N_ x) ?_;have T:(x.cs.drop 0).take 1=[.int .i64 x.op]:=rfl;have x1:x.cs.tail.take 1=[.int .i64 x.jt]:=rfl;have x2:(x.cs.drop 2).take 1=[.int .i64 x.jf]:=rfl;have x3:(x.cs.drop 3).take 1=[.int .u32 x.k]:=rfl;have w:x.cs.take 1=[.int .i64 x.op]:=rfl
   have kx:∀n,aZ n x.cs=x.cs:=λn=>by simp[af.cs,aZ,V.cl]
   have ze:x.k<4294967296:=Z x (by rw[K];exact aba E)
   have z:(u.set b true).length=f.length:=by simp[hu]
   obtain⟨U,hU⟩:=bb (u.set b true);rw[<-hU] at d z |-
   by_cases L:fW x.op=true
   .rw[if_pos L] at d;subst d;simp[L,p]
   rw[if_neg L] at d
   have I:fW x.op=false:=by simpa using L
   have A:∀{c:Nat},b<c->c<f.length->f.length-c<f.length-b:=λh1 M=>by omega
   by_cases l:x.op=5
   .rw[if_pos l] at d
    have Ms:fW (5:Int)=false:=by decide
    have C:=F x.k (by simp[aY,l,Ms])
    have c1:fc .i64 x.k=(x.k:Int):=by rw[CW]<;>omega
    have W:aC .i64 b (x.k:Int)=(b+x.k:Nat):=qq
    have X:aC .i64 ((b+x.k:Nat):Int) 1=(b+1+x.k:Nat):=qq
    simp(disch:=omega)[I,l,Ms,kk,T,w,x3,q,c1,W,X,av,e,p,d,C,z,g,i,j,-aaa];exact⟨(b+1+x.k,U),A an C,⟨d,C,z,by simp only;omega⟩,by simp[av,e,g,i,j,-aaa],p U _⟩
   rw[if_neg l] at d
   by_cases D:aX x.op=true
   .rw[if_pos D] at d;obtain⟨b1,b2,b3,b4⟩:=kq D
    have mT:aY x=[x.jt.toNat,x.jf.toNat]:=by simp[aY,I,l,D]
    have uC:=F x.jt.toNat (by rw[mT];simp);have iz:=F x.jf.toNat (by rw[mT];simp)
    have Y:aC .i64 b 1=(b+1:Nat):=qq
    have W:aC .i64 ((b+1:Nat):Int) x.jt=(b+1+x.jt.toNat:Nat):=qq
    have X:aC .i64 b x.jf=(b+x.jf.toNat:Nat):=qq
    have a3:aC .i64 ((b+x.jf.toNat:Nat):Int) 1=(b+1+x.jf.toNat:Nat):=qq
    have B:=aG l;have ih:=zy4 J Z hf n (b+1+x.jt.toNat) U (r++[some (.cells x.cs)]) (λn=>by simp[hr,ay.cl,kx]) an uC z;have k:=Qt J n (b+1+x.jt.toNat) U an uC z;simp(disch:=omega)[I,B,kk,T,w,q,Q,av,e,g,i,j,-aaa];refine aw (zL x) ?_;simp(disch:=omega)[D,kk,x1,N,Y,W,q,e,av,g,i,j,-aaa];refine Mh (args:=[.int .i64 ((b+1+x.jt.toNat:Nat):Int)]) (cap:=[.ptr 2 0,.ptr 0 0,.ptr 3 0]) ih ?_
    simp(disch:=omega)[kk,x2,X,a3,q,e,av,g,i,j,-aaa];exact⟨(b+1+x.jf.toNat,uY f (b+1+x.jt.toNat) U),A an iz,⟨d,iz,by simp only[k.len,z],by simp only;omega⟩,by simp[av,e,g,i,j,-aaa],p _ _⟩
   .rw[if_neg D] at d
    have Qu:aX x.op=false:=by simpa using D
    have C:=F 0 (by simp[aY,I,l,Qu]);have B:=aG l
    have Y:aC .i64 b 1=(b+1:Nat):=qq
    simp(disch:=omega)[I,B,kk,T,w,q,Q,av,e,g,i,j,-aaa];refine aw (zL x) ?_;simp(disch:=omega)[Qu,kk,Y,q,e,av,g,i,j,-aaa];exact⟨(b+1,U),A an C,⟨d,C,z,by simp only;omega⟩,by simp[av,e,g,i,j,-aaa],p U _⟩
def zIJ[aE G][aD G][gP G]{f:List af}(a:du f=true)(b:∀x∈f,x.k<4294967296)(h:f.length<=4096) :
  FP G 347 [FL f] (.bc [.vs (oK (pX f)) .no,.int .i64 0]):=by
 refine bw gP.afh (aab rfl) ?_;have c:f.length<=maxLen:=aau h ah9;have d:=Lb (G:=G) f c b;rw[a] at d;simp[FL];refine aw d ?_
 have i:0<f.length:=by
  have:=SP a
  cases f with
  | nil=>exact absurd rfl this
  | cons x f=>simp
 have k:=zy4 (G:=G) a b c f.length 0 (abi f.length false) [] (λn=>rfl) an i ir;simp(disch:=omega)[FL,av,aB];refine Mh (args:=[.int .i64 ((0:Nat):Int)]) (cap:=[.ptr 2 0,.ptr 0 0,.ptr 3 0]) k ?_;have e:(pX f).length=f.length:=(Va a).1;have g:=zoN (pX f);rw[e] at g;rw[show uY f 0 (abi f.length false)=pX f from rfl];simp[HM,e,g]
def Vd{m:List Bool}{i:Nat}{t:Bool}(h:m[i]?=some t):bP m (i+1)=bP m i+(if t=true then 1 else 0):=by
 rw[bP,bP,aap,h,aby,List.countP_append]
 cases t<;>simp
def zHj{m:List Bool}{i:Nat}(h:m[i]?=some true)(o:Nat):bP m (i+1+o)=bP m i+1+bP (m.drop (i+1)) o:=by rw[zqR,Vd h];simp
def o8(f:List af)(m:List Bool)(i:Nat):List af:=(dO f m).take (bP m i)
def zHk{f:List af}{m:List Bool}{i:Nat}(h:m[i]?=some false):o8 f m (i+1)=o8 f m i:=by rw[o8,o8,Vd h];rfl
def zE5{f:List af}{m:List Bool}{i:Nat}{x:af}(b:f.length=m.length)(c:f[i]?=some x)(h:m[i]?=some true):o8 f m (i+1)=o8 f m i++[kS (m.drop (i+1)) x]:=by
 have a:=UL f m i b;obtain⟨d,rfl⟩:=aae.1 c;obtain⟨g,e⟩:=aae.1 h;rw[aaK d,aaK g,e,dO] at a
 have j:(dO f m)[bP m i]?=some (kS (m.drop (i+1)) f[i]):=by rw[<-List.head?_drop,a];rfl
 rw[o8,o8,Vd h,if_pos rfl,aap,j];rfl
def zE6{f:List af}{m:List Bool}(a:f.length=m.length):o8 f m f.length=dO f m:=by rw[o8,aaA];rw[JU f m a,a,bP,aaE];exact aaI _
def zE7(f:List af)(m:List Bool)(i:Nat):(o8 f m i).length<=i:=by rw[o8,aao];have:=Mg m i;omega
def o9(m:List Bool)(i:Nat):List Nat:=(abd m.length).map λj=>if j<i then bP m j else 0
def zwX(m:List Bool)(i:Nat):(o9 m i).length=m.length:=by simp[o9]
def zE8{m:List Bool}{i:Nat}(h:i<m.length):(o9 m i).set i (bP m i)=o9 m (i+1):=by
 apply abR
 .simp[o9]
 intro j b c;simp only[o9,abV,abX,List.length_range] at b c;rw[List.getElem_set];simp only[o9,List.getElem_map,List.getElem_range]
 by_cases e:i=j
 .subst e;simp
 .rw[if_neg e]
  by_cases a:j<i
  .rw[if_pos a,if_pos an]
  .rw[if_neg a,if_neg an]
def zwY{m:List Bool}{j:Nat}(h:j<m.length):(o9 m m.length)[j]?=some (bP m j):=by rw[o9,abM,abG h];simp[h]
def zIK[gP G]{m:List Bool}{i o:Nat}(l:m.length<=4096)(hi:m[i]?=some true)(d:i+1+o<m.length)(z:ay)(y:List V) :
  bE G (.F 348 [.int .i64 i,.int .i64 o,.ptr 1 0] [some (.cells (ax .i64 (o9 m m.length))),some (.cells [.rs 0 0 m.length 1]),some z,some (.cells y)] (.int .i64 (bP (m.drop (i+1)) o:Nat))
   [some (.cells (ax .i64 (o9 m m.length))),some (.cells [.rs 0 0 m.length 1]),some z,some (.cells y)]):=by
 refine fg gP.afi (aab rfl) ?_;have e:aC .i64 i 1=((i+1:Nat):Int):=bA an;have f:aC .i64 ((i+1:Nat):Int) (o:Int)=((i+1+o:Nat):Int):=qA an;have n:=Mg m (i+1+o);have p:=zHj hi o;have a:=EZ .i64 (zwY (m:=m) (j:=i+1+o) d);have b:=EZ .i64 (zwY (m:=m) (j:=i) an)
 have g:bO .i64 (bP m (i+1+o):Int) (bP m i:Int)=((bP m (i+1+o)-bP m i:Nat):Int):=by rw[nW]<;>omega
 have h:bO .i64 ((bP m (i+1+o)-bP m i:Nat):Int) 1=((bP (m.drop (i+1)) o:Nat):Int):=by rw[nW]<;>omega
 obtain⟨N,c⟩:=bb (o9 m m.length)
 have k:N.length=m.length:=by rw[c,zwX]
 rw[<-c] at a b |-;simp(disch:=omega)[e,f,a,b,g,h,gV,aB,k,-aaa]
def zIL{o:Int}(h:aX o=true):fW o=false:=by
 cases e:fW o with
 | false=>rfl
 | true =>
  simp only[fW,Bool.or_eq_true,beq_iff_eq,decide_eq_true_eq] at e
  rcases e with e|e<;>(rw[e] at h;revert h;decide)
def zE9[aE G][aD G][gP G]{f:List af}(A:du f=true)(V:∀x∈f,x.k<4294967296)(hf:f.length<=4096) :
  FP G 349 [FL f] (.bc [.vs (IL (prune f)) .no,.int .i64 0]):=by
 refine bw gP.afj (aab rfl) ?_;obtain⟨W,j4,F,_⟩:=Va A;simp[FL];refine aw (zIJ A V hf) ?_;obtain⟨m,X⟩:=bb (pX f)
 have Ve:prune f=dO f m:=by rw[prune,X]
 rw[<-X] at W j4 F |-;have s:f.length=m.length:=W.symm
 have H:m.length<=4096:=an
 have jB:(oK m).length=m.length:=by simp[oK]
 simp(disch:=omega)[FL,aB,jB];obtain⟨N,n⟩:∃N:Nat->List Nat,∀j,N j=o9 m j:=⟨_,λ_=>rfl⟩
 have I:∀j,(N j).length=m.length:=λj=>by rw[n,zwX]
 have Jm:aR m.length=N 0:=by
  rw[n,o9,aR]
  apply abR<;>simp
 refine aO m.length (λi=>[(0,FL f),(4,.vs (oK m) .no),(6,.ptr 1 0),(7,.int .i64 (bP m i:Nat)),(25,.vs (oK m) .no),(26,.int .i64 m.length),(27,.int .i64 i)])
  (λi=>[some (.cells (ax .i64 (N i))),some (.cells [.rs 0 0 m.length 1])]) (λ_=>True) ?_ ?_
 .simp[av,ak,FL,Jm,s,JS]
 intro i hi _
 by_cases a:i<m.length
 .obtain⟨t,u⟩:=bb (m[i])
  have p:m[i]?=some t:=by rw[aaf a,u]
  have v:(oK m)[i]?=some [.bool t]:=by simp[p]
  have r:(oK m)[i]' an=[.bool t]:=by simp[oK,u]
  have d:=wQ .i64 (N i) i (bP m i) (by rw[I];exact a);rw[n i,zE8 a,<-n (i+1),<-n i] at d;have B:=Vd p;have w:=Mg m i;have a1:aC .i64 (bP m i:Int) 1=((bP m i+1:Nat):Int):=bA an
  cases t with
  | true =>
   simp(disch:=omega)[bC,aB,gV,v,r,d,I,a,bA,a1,B,av,ak,FL,-aaa]
  | false =>
   simp(disch:=omega)[bC,aB,gV,v,r,d,I,a,bA,B,av,ak,FL,-aaa]
 have J:i=m.length:=an
 subst J;obtain⟨T,e⟩:∃T:Nat->List af,∀j,T j=o8 f m j:=⟨_,λ_=>rfl⟩
 have wW:T 0=[]:=by rw[e,o8,JS,ab1]
 have K:∀j,(T j).length<=j:=λj=>by rw[e];exact zE7 f m j
 simp(disch:=omega)[av,ak,FL,-aaa]
 refine aO m.length (λi=>[(4,.vs (oK m) .no),(10,.fn 348 [.ptr 1 0]),(11,.vs (IL (T i)) (.own 2)),(41,FL f),(42,.int .i64 m.length),(43,.int .i64 i)])
  (λi=>[some (.cells (ax .i64 (N m.length))),some (.cells [.rs 0 0 m.length 1]),some (.zone (T i).length)]) (λ_=>True) ?_ ?_
 .simp[av,ak,FL,wW,s]
 intro i hi _
 by_cases a:i<m.length
 .obtain⟨t,u⟩:=bb (m[i])
  have p:m[i]?=some t:=by rw[aaf a,u]
  have r:(oK m)[i]' an=[.bool t]:=by simp[oK,u]
  obtain⟨x,c⟩:=bb (f[i]'(by omega));have C:=sC (f:=f) (i:=i) an;rw[<-c] at C;have c:=c.symm
  have L:f[i]?=some x:=by rw[aaf an,c]
  have lH:x∈f:=c▸aba _;have im:=V x lH;have kq:=Ld A L;have M:=λo h=>Ei (o:=o) A L h;have D:x.cs=[.int .i64 x.op,.int .i64 x.jt,.int .i64 x.jf,.int .u32 x.k]:=rfl;have Y:=zL (G:=G) x;simp[IV,D] at Y;have nJ:=K i
  cases t with
  | false =>
   have O:T (i+1)=T i:=by rw[e,e];exact zHk p
   simp(disch:=omega)[bC,aB,gV,r,C,c,D,O,a,bA,av,ak,FL,-aaa]
  | true =>
   have Z:T (i+1)=T i++[kS (m.drop (i+1)) x]:=by rw[e,e];exact zE5 s L p
   have P:(T (i+1)).length=(T i).length+1:=by rw[Z];simp
   have Q:∀y:af,y=kS (m.drop (i+1)) x->IL (T i)++[y.cs]=IL (T (i+1)):=λy hy=>by rw[Z,hy];exact Sj _ _
   have E:∀o:Nat,i+1+o<m.length->_:=λo h=>zIK (G:=G) H p h (.zone (T i).length) x.cs;rw[<-n] at E
   by_cases g:x.op=5
   .have R:(x.op==5)=true:=by simp[g]
    have Ms:fW (5:Int)=false:=by decide
    have B:=CW x.k im
    have o_:i+1+x.k<m.length:=by have:=M x.k (by simp[aY,g,Ms]);omega
    have l:=E x.k o_;have w:=Mg (m.drop (i+1)) x.k
    have uH:fc .u32 ((bP (m.drop (i+1)) x.k:Nat):Int)=((bP (m.drop (i+1)) x.k:Nat):Int):=by unfold fc;exact sM an
    have b:=Q ⟨x.op,x.jt,x.jf,bP (m.drop (i+1)) x.k⟩ (by simp[kS,g]);simp only[af.cs] at l b;obtain⟨q,S⟩:=bb (bP (m.drop (i+1)) x.k);rw[<-S] at l b uH w;simp(disch:=omega)[bC,aB,gV,r,C,c,D,R,B,FL,-aaa];refine kW l ir ?_;simp(disch:=omega)[ak,uH,aB,b,P,a,bA,av,-aaa]
   have R:(x.op==5)=false:=aG g;simp(disch:=omega)[bC,aB,gV,r,C,c,D,R,FL,-aaa];refine aw Y ?_;cases z:aX x.op
   .have b:=Q x (by simp[kS,g,z]);simp only[af.cs] at b;simp(disch:=omega)[aB,b,P,a,bA,av,ak,-aaa]
   .obtain⟨b1,b2,b3,b4⟩:=kq z;have pK:fW x.op=false:=zIL z
    have mT:aY x=[x.jt.toNat,x.jf.toNat]:=by simp[aY,pK,g,z]
    have mC:=M x.jt.toNat (by rw[mT];simp);have fA:=M x.jf.toNat (by rw[mT];simp);have l:=E x.jt.toNat an;have U:=E x.jf.toNat an;have b:=Q ⟨x.op,(bP (m.drop (i+1)) x.jt.toNat:Nat),(bP (m.drop (i+1)) x.jf.toNat:Nat),x.k⟩ (by simp[kS,g,z])
    have j1:((x.jt.toNat:Nat):Int)=x.jt:=an
    have j2:((x.jf.toNat:Nat):Int)=x.jf:=an
    simp only[af.cs,j1,j2] at l U b;obtain⟨q,S⟩:=bb (bP (m.drop (i+1)) x.jt.toNat);obtain⟨q2,Ij⟩:=bb (bP (m.drop (i+1)) x.jf.toNat);rw[<-S] at l b;rw[<-Ij] at U b;simp;refine kW l (by simp[ak]) ?_;simp[ak];refine kW U (by simp[ak]) ?_;simp(disch:=omega)[ak,aB,b,P,a,bA,av,-aaa]
 .have J:i=m.length:=an
  subst J
  have O:T m.length=prune f:=by rw[e,<-s,zE6 s,Ve]
  simp[O]
noncomputable def sg(f:List af)(t:List TR)(a tries most:Int):(List af×List TR)×Nat×Bool :=
 vu (q7 tries 0 1000) (q7 most 0 32) (q7 a 0 1000).toNat (prune f) (jU t)
def zCI(t:List TR):eh (jU t)=true:=by
 unfold jU;split
 .assumption
 .rfl
def zwZ{t:List TR}(h:eh t=true)(b:mc t):U8 t:=by
 refine⟨by have:=(Qg h).2;omega,λr a=>?_⟩
 have c:r.may=true:=by simp only[eh,aai] at h;exact aav.1 h.1.1 r a
 obtain⟨d,e⟩:=JZ c;obtain⟨f,g,i⟩:=b r a;exact⟨aau d ah9,aau e ah9,f,g,i⟩
def ztf{f:List af}(a:∀x∈f,x.k<4294967296):∀x∈prune f,x.k<4294967296:=by intro x b;obtain⟨y,c,_,d⟩:=Vc b;have:=a y c;omega
def zp8[dT G][dy G][aE G][aD G][bQ G][dx G][cW G][aQ G][cY G][cZ G][bY G][cu G][bS G][au G][P:dU G][cB G][aN G][de G][bZ G][cQ G][eT G][ga G][fI G][fJ G][iQ G][dh G][fK G][eJ G][ej G][cS G][gP G][fj G]
  (f:List af) (t:List TR) (d tries most:Int) (h:du f=true) (v:∀x∈f,x.k<4294967296) (w:U8 t) (K:mc (jU t)) :
  FP G 365 [FL f,TF t,.agg [.int .i64 d,.int .i64 tries,.int .i64 most]] (.bc [.agg (o6 (sg f t d tries most).1.1 (sg f t d tries most).1.2 (sg f t d tries most).2.1 (sg f t d tries most).2.2),.int .i64 0]):=by
 refine bw fj.afz (aab rfl) ?_;have j:=Mc h;have y:=zE9 (G:=G) h v j;obtain⟨p1,p2,_,_⟩:=Vb h;have p3:=ztf v;have z:=zE4 (G:=G) d tries most;have A:=zHh (G:=G) t w.1 w.2;have L:=zCI t;obtain⟨e,B⟩:=bb (q7 tries 0 1000);obtain⟨a,l⟩:=bb (q7 most 0 32)
 have m:0<=a/\a<=32:=by rw[l];unfold q7;omega
 obtain⟨R,C⟩:∃R:Nat,q7 d 0 1000=R:=⟨(q7 d 0 1000).toNat,by unfold q7;omega⟩
 have U:R<=1000:=by
  have:q7 d 0 1000<=1000:=by unfold q7;omega
  omega
 rw[sg,<-B,<-l,C,Int.toNat_natCast];rw[<-B,<-l,C] at z;generalize prune f=F at *;generalize jU t=T at *;obtain⟨Q,D⟩:=bb (vu e a R F T);rw[<-D];simp only[FL,TF] at y A;simp[FL,TF];refine aw y ?_;simp;refine aw z ?_;simp;refine aw A ?_;simp[av]
 refine u5 (S:=Nat×List af×List TR) (λs=>R-s.1) (λs=>[(5,.ptr 0 0),(6,.ptr 1 0),(9,.ptr 2 0),(27,.int .i64 R),(28,.int .i64 s.1)])
  (λs=>[some (.cells [.int .i64 R,.int .i64 e,.int .i64 a]),some (.cells [.vs [] .full,.vs [] .full,.int .i64 0,.bool false]),some (.cells (o6 s.2.1 s.2.2 s.1 false))])
  (λs=>s.1<=R/\(vu e a (R-s.1) s.2.1 s.2.2).1=Q.1/\s.1+(vu e a (R-s.1) s.2.1 s.2.2).2.1=Q.2.1/\(vu e a (R-s.1) s.2.1 s.2.2).2.2=Q.2.2/\du s.2.1=true/\(∀x∈s.2.1,x.k<4294967296)/\mc s.2.2/\eh s.2.2=true) (0,F,T) ?_ ?_
 .simp[av,ak,o6,FL,TF,D,p1,K,L];exact p3
 rintro⟨i,E,H⟩ ⟨hi,q1,c,b,n,o,p,r⟩;simp only at hi q1 c b n o p r |-;have I:=zAc (G:=G) E H R e a n o (zwZ r p) m;simp only[FL,TF] at I
 by_cases V:i<R
 .obtain⟨k,M⟩:∃k,R-i=k+1:=⟨R-i-1,an⟩;rw[M,vu] at q1 c b;have N:((i:Int)<(R:Int))=True:=ah7;simp[N,o6,FL,TF];refine aw I ?_
  cases u:yh E H e a with
  | none =>
   rw[u] at q1 c b;simp only at q1 c b
   simp[Ai,o6,FL,TF,<-q1,<-c,<-b]
  | some q =>
   rw[u] at q1 c b;simp only at q1 c b;have kk:=zwW n o p u;simp[Ai,o6,FL,TF];have J:aC .i64 i 1=((i+1:Nat):Int):=bA an
   have g:R-(i+1)=k:=an
   refine⟨(i+1,q.1,q.2),by simp only;omega,⟨by simp only;omega,by simp only[g];exact q1,by simp only[g];omega,by simp only[g];exact b,kk.sound,kk.k,kk.tk,kk.dC r⟩,?_,?_⟩
   .rw[J];simp[av,-aaa]
   .rw[J];simp[ak,-aaa]
 .have O:i=R:=an
  subst O;rw[ab6,vu] at q1 c b;simp only at q1 c b;simp[o6,FL,TF,<-q1,<-c,<-b]
structure Jb where
 p:Po
 f:List (List V)
 F:List (List V)
 T:List (List V)
 n:Int
 d:Bool
 of:List (List V)
 oc:List (List V)
 ot:List (List V)
 on:Int
 od:Bool
 at_:Int
 e:Int
 k1:Tk
 k2:Tk
 k3:Tk
 k4:Tk
 k5:Tk
 k6:Tk
 k7:Tk
def Jb.cs(j:Jb):List V:=[.vs (RL j.p.rules) j.k1,.int .u32 j.p.cN,.vs j.f j.k2,.vs j.F j.k3,.vs j.T j.k4,.int .i64 j.n,.bool j.d,.vs j.of j.k5,.vs j.oc j.k6,.vs j.ot j.k7,.int .i64 j.on,.bool j.od,.int .i64 j.at_,.int .i64 j.e]
def Aj:List V:=[.vs [] .full,.vs [] .full,.vs [] .full,.int .i64 0,.bool false]
def iv(x y z:Int):List V:=[.int .i64 x,.int .i64 y,.int .i64 z]
def HC(S:List UInt8)(x y z:Int)(tb:List (List V))(j:Jb)(R:ae):ae :=
 some (.cells [.str S])::some (.cells (iv x y z))::some (.cells Aj)::some (.cells j.cs)::some (.cells [.ptr 3 0])::some (.cells [.vs tb .no])::R
section
variable {S:List UInt8} {x y z:Int} {tb:List (List V)} {R:ae}
def zw0[bD G]{j:Jb}{p:Po}{a e:Int}(h:FP G 467 [.str S] (.bc [.agg p.cs,.int .i64 a,.int .i64 e])) :
  bE G (.F 478 [.ptr 0 0,.ptr 4 0] (HC S x y z tb j R) (.bc []) (HC S x y z tb { j with p:=p,at_:=a,e:=e,k1:=.no } R)):=by
 refine fg bD.agx (aab rfl) ?_;simp only[Po.cs] at h;simp[HC,Jb.cs];refine aw h ?_;simp
def zFa[bD G]{j:Jb}{f:List (List V)}{e:Int}(h:FP G 428 [.agg j.p.cs] (.bc [.vs f .no,.int .i64 e])) :
  bE G (.F 479 [.ptr 4 0] (HC S x y z tb j R) (.bc []) (HC S x y z tb { j with f:=f,e:=e,k2:=.no } R)):=by
 refine fg bD.agy (aab rfl) ?_;simp only[Po.cs] at h;simp[HC,Jb.cs];refine aw h ?_;simp
def zFb[bD G]{j:Jb}{F T:List (List V)}{n:Int}{d:Bool}{e:Int}(h:FP G 365 [.vs j.f .no,.vs tb .no,.agg (iv x y z)] (.bc [.agg [.vs F .no,.vs T .no,.int .i64 n,.bool d],.int .i64 e])) :
  bE G (.F 480 [.ptr 4 0,.ptr 5 0,.ptr 1 0] (HC S x y z tb j R) (.bc []) (HC S x y z tb { j with F:=F,T:=T,n:=n,d:=d,e:=e,k3:=.no,k4:=.no } R)):=by
 refine fg bD.agz (aab rfl) ?_;simp only[iv] at h;simp[HC,Jb.cs,iv];refine aw h ?_;simp
def zFc[bD G]{j:Jb}{c:List (List V)}{e:Int}(h:FP G 351 [.vs j.F .no] (.bc [.vs c .no,.int .i64 e])) :
  bE G (.F 481 [.ptr 4 0] (HC S x y z tb j R) (.bc []) (HC S x y z tb { j with oc:=c,e:=e,k6:=.no } R)):=by
 refine fg bD.agA (aab rfl) ?_;simp[HC,Jb.cs];refine aw h ?_;simp
def zFd[bD G]{j:Jb}{c:List (List V)}{e:Int}(h:FP G 477 [.vs j.T .no] (.bc [.vs c .no,.int .i64 e])) :
  bE G (.F 482 [.ptr 4 0] (HC S x y z tb j R) (.bc []) (HC S x y z tb { j with ot:=c,e:=e,k7:=.no } R)):=by
 refine fg bD.agB (aab rfl) ?_;simp[HC,Jb.cs];refine aw h ?_;simp
end
def wF:Jb:=⟨⟨[],0⟩,[],[],[],0,false,[],[],[],0,false,0,0,.full,.full,.full,.full,.full,.full,.full⟩
def gZ:ae:=[some (.cells [.fn 478 [.ptr 0 0,.ptr 4 0],.fn 479 [.ptr 4 0],.fn 480 [.ptr 4 0,.ptr 5 0,.ptr 1 0],.fn 481 [.ptr 4 0],.fn 482 [.ptr 4 0]])]
def zFK{S:List UInt8}{x y z:Int}{tb:List (List V)}{j:Jb}(h:aZ 7 j.cs=j.cs):ak 7 (HC S x y z tb j gZ)=HC S x y z tb j gZ:=by simp[ak,HC,gZ,ay.cl,aZ,V.cl,Tk.cl,iv,Aj];simpa[aZ] using h
def zCJ{S:List UInt8}{x y z:Int}{tb:List (List V)}{j:Jb}:(HC S x y z tb j gZ).length=7:=rfl
def zxJ[bD G]{S:List UInt8}{tab:List (List V)}{x y z:Int}{tb:List (List V)}{te:Int}{p:Po}{a e:Int}(d:(e !=0)=true)(hd:FP G 476 [.vs tab .no] (.bc [.vs tb .no,.int .i64 te]))(h:FP G 467 [.str S] (.bc [.agg p.cs,.int .i64 a,.int .i64 e])) :
  FP G 483 [.str S,.vs tab .no,.agg (iv x y z)] (.bc [.agg [.vs [] .no,.vs [] .no,.vs [] .no,.int .i64 0,.bool false],.int .i64 a,.int .i64 e]):=by
 refine bw bD.agC (aab rfl) ?_;have c:=zw0 (S:=S) (x:=x) (y:=y) (z:=z) (tb:=tb) (R:=gZ) (j:=wF) h;obtain⟨j,b⟩:∃j:Jb,j={ wF with p:=p,at_:=a,e:=e,k1:=.no }:=⟨_,rfl⟩;rw[<-b] at c;have f:=zFK (S:=S) (x:=x) (y:=y) (z:=z) (tb:=tb) (j:=j) (by rw[b];simp[Jb.cs,wF,aZ,V.cl,Tk.cl]);have g:=zCJ (S:=S) (x:=x) (y:=y) (z:=z) (tb:=tb) (j:=wF)
 have k:j.at_=a:=by rw[b]
 have l:j.e=e:=by rw[b]
 simp[iv];refine aw hd ?_;simp;refine aO 1 (λi=>[(6,.ptr 2 0),(9,.ptr 4 0),(28,.rs 6 0 5 1),(29,.int .i64 5),(30,.int .i64 i)]) (λ_=>HC S x y z tb wF gZ) (λi=>i=0) ?_ ?_
 .simp[av,ak,HC,gZ,iv,Aj,wF,Jb.cs,RL,ay.cl,aZ,V.cl,Tk.cl]
 rintro i hi rfl;have m:(HC S x y z tb wF gZ)[6]?=some (some (.cells [.fn 478 [.ptr 0 0,.ptr 4 0],.fn 479 [.ptr 4 0],.fn 480 [.ptr 4 0,.ptr 5 0,.ptr 1 0],.fn 481 [.ptr 4 0],.fn 482 [.ptr 4 0]])):=rfl;simp[m];refine kW (by simpa using c) (λh=>by simp at h) ?_;rw[g,f];simp[HC,Jb.cs,k,l,d,iv,Aj]
def zxK[bD G]{S:List UInt8}{tab:List (List V)}{x y z:Int}{tb:List (List V)}{te:Int}{J:Nat->Jb}(o:J 0=wF)(hd:FP G 476 [.vs tab .no] (.bc [.vs tb .no,.int .i64 te]))
  (p:bE G (.F 478 [.ptr 0 0,.ptr 4 0] (HC S x y z tb (J 0) gZ) (.bc []) (HC S x y z tb (J 1) gZ)))
  (q:bE G (.F 479 [.ptr 4 0] (HC S x y z tb (J 1) gZ) (.bc []) (HC S x y z tb (J 2) gZ)))
  (r:bE G (.F 480 [.ptr 4 0,.ptr 5 0,.ptr 1 0] (HC S x y z tb (J 2) gZ) (.bc []) (HC S x y z tb (J 3) gZ)))
  (s:bE G (.F 481 [.ptr 4 0] (HC S x y z tb (J 3) gZ) (.bc []) (HC S x y z tb (J 4) gZ)))
  (t:bE G (.F 482 [.ptr 4 0] (HC S x y z tb (J 4) gZ) (.bc []) (HC S x y z tb (J 5) gZ)))
  (u:∀i,i<=5->aZ 7 (J i).cs=(J i).cs) (c:∀i,1<=i->i<=5->(J i).e=0) :
  FP G 483 [.str S,.vs tab .no,.agg (iv x y z)] (.bc [.agg [.vs (J 5).F .no,.vs (J 5).oc .no,.vs (J 5).ot .no,.int .i64 (J 5).n,.bool (J 5).d],.int .i64 0,.int .i64 0]):=by
 refine bw bD.agC (aab rfl) ?_;have a:=λi hi=>zFK (S:=S) (x:=x) (y:=y) (z:=z) (tb:=tb) (u i hi);have b:=λi=>zCJ (S:=S) (x:=x) (y:=y) (z:=z) (tb:=tb) (j:=J i);simp[iv];refine aw hd ?_;simp;refine aO 5 (λi=>[(6,.ptr 2 0),(9,.ptr 4 0),(28,.rs 6 0 5 1),(29,.int .i64 5),(30,.int .i64 i)]) (λi=>HC S x y z tb (J i) gZ) (λi=>True) ?_ ?_
 .simp[av,ak,HC,gZ,iv,Aj,o,wF,Jb.cs,RL,ay.cl,aZ,V.cl,Tk.cl]
 intro i hi _;have f:∀i,(HC S x y z tb (J i) gZ)[6]?=some (some (.cells [.fn 478 [.ptr 0 0,.ptr 4 0],.fn 479 [.ptr 4 0],.fn 480 [.ptr 4 0,.ptr 5 0,.ptr 1 0],.fn 481 [.ptr 4 0],.fn 482 [.ptr 4 0]])):=λ_=>rfl;have v:∀i,(HC S x y z tb (J i) gZ)[3]?=some (some (.cells (J i).cs)):=λ_=>rfl;have w:∀i,(HC S x y z tb (J i) gZ)[4]?=some (some (.cells [.ptr 3 0])):=λ_=>rfl;have g:∀i (h:3<(HC S x y z tb (J i) gZ).length),(HC S x y z tb (J i) gZ)[3]'h=some (.cells (J i).cs):=λ_ _=>rfl
 have k:∀i (h:4<(HC S x y z tb (J i) gZ).length),(HC S x y z tb (J i) gZ)[4]'h=some (.cells [.ptr 3 0]):=λ_ _=>rfl
 rcases aaj hi with m|A
 .subst m;simp[HC,Jb.cs,iv,Aj]
 have nx:∀i,i<5->(J (i+1)).e=0:=λi h=>c _ an an;have l:∀i,(J i).cs.length=14:=λ_=>rfl;have kd:∀i,((J i).cs.drop 13).take 1=[.int .i64 (J i).e]:=λ_=>rfl
 have:i=0\/i=1\/i=2\/i=3\/i=4:=an
 rcases this with rfl|rfl|rfl|rfl|rfl
 .simp[f];refine kW (by simpa using p) (λh=>by simp at h) ?_;rw[b,a 1 ah9];simp[g,k,l,kd,nx,av,b,a,show aC .i64 0 1=1 by decide]
 .simp[f];refine kW (by simpa using q) (λh=>by simp at h) ?_;rw[b,a 2 ah9];simp[g,k,l,kd,c,av,b,a,show aC .i64 1 1=2 by decide]
 .simp[f];refine kW (by simpa using r) (λh=>by simp at h) ?_;rw[b,a 3 ah9];simp[g,k,l,kd,c,av,b,a,show aC .i64 2 1=3 by decide]
 .simp[f];refine kW (by simpa using s) (λh=>by simp at h) ?_;rw[b,a 4 ah9];simp[g,k,l,kd,c,av,b,a,show aC .i64 3 1=4 by decide]
 .simp[f];refine kW (by simpa using t) (λh=>by simp at h) ?_;rw[b,a 5 ah9];simp[g,k,l,kd,c,av,b,a,show aC .i64 4 1=5 by decide]
open Go Go.RowKit
variable {G:aL}
def uZ:Nat->Nat->List Nat
 | 0,n=>[n%16]
 | m+1,n=>if n<16 then [n%16] else uZ m (n/16)++[n%16]
def Vf:∀(m n:Nat),n<16^(m+1)->(∀d∈uZ m n,d<16)/\1<=(uZ m n).length/\(uZ m n).length<=m+1/\((uZ m n).head?=some 0->(uZ m n).length=1/\n=0)/\iE (uZ m n)=n
 | 0,n,h=>by
  have:n%16=n:=aaw (by simpa using h);simp[uZ,this,iE]
  simpa using h
 | m+1,n,h=>by
  unfold uZ;split
  .rename_i a;have:n%16=n:=aaw a;simp[this,iE,a]
  .rename_i a;obtain⟨e,b,i,f,g⟩:=Vf m (n/16) (by rw[ab7] at h;omega);refine⟨λd hd=>?_,ir,by simp;omega,λc=>?_,by rw[Gy,g];omega⟩
   .rcases aaJ.1 hd with hd|hd
    .exact e d hd
    .simp at hd;omega
   .have:(uZ m (n/16)).head?=some 0:=by
     cases hd:uZ m (n/16) with
     | nil=>rw[hd] at b;simp at b
     | cons x l=>rw[hd] at c;simpa using c
    have:=(f this).2;omega
def zIM{d:Nat}(h:d<16):ku d=aaY (if 9<d then 87+d else 48+d):=by
 unfold ku
 congr 1
 split<;>split<;>omega
def zsd[dB G]:∀(m n:Nat),m<=100->n<16^(m+1)->n<18446744073709551616->FP G 430 [.int .u64 n] (.str ((uZ m n).map ku))
 | m,n,z,k,w=>by
  obtain⟨d,hd⟩:=bb (n%16)
  have x:d<16:=an
  have g:gn (n:Int) 16=((d:Nat):Int):=by rw[hd];exact wT (b:=16)
  have q1:kF .u64 (n:Int) 16=((n/16:Nat):Int):=SN (b:=16) w;have i:aC .u64 48 (d:Int)=((48+d:Nat):Int):=IntWalk.u64_in _ ⟨an,an⟩;have l:aC .u64 87 (d:Int)=((87+d:Nat):Int):=IntWalk.u64_in _ ⟨an,an⟩;have j:=YU (a:=48+d) an;have o:=YU (a:=87+d) an;have p:=zIM x;have e:=(Vf m n k).2.2.1;have A:∀s:List UInt8,s.length<=101->(s.length<=9223372036854775806)=True:=λs h=>eq_true an
  refine bw dB.af4 (aab rfl) ?_
  by_cases q:n<16
  .have e:((n:Int)<16)=True:=ah7
   have r:uZ m n=[d]:=by cases m<;>simp[uZ,q,hd]
   rw[r,abf,abI,p]
   by_cases f:9<d
   .have c:(9<(d:Int))=True:=ah7;simp[g,i,l,j,o,c,f,e,-aaa]
   .have c:(9<(d:Int))=False:=ah8;simp[g,i,j,c,f,e,-aaa]
  .cases m with
   | zero=>simp at k;omega
   | succ m =>
   have e:((n:Int)<16)=False:=ah8
   have t:n/16<16^(m+1):=by rw[ab7] at k;omega
   have u:=zsd m (n/16) an t an;have r:=(Vf m (n/16) t).2.2.1;have v:((uZ m (n/16)).length<=9223372036854775806)=True:=ah7
   have y:uZ (m+1) n=uZ m (n/16)++[d]:=by simp[uZ,q,hd]
   rw[y,List.map_append,abf,abI,p]
   by_cases f:9<d
   .have c:(9<(d:Int))=True:=ah7;simp[g,q1,i,l,j,o,c,f,e,-aaa,-abn];refine aw u ?_;simp[v]
   .have c:(9<(d:Int))=False:=ah8;simp[g,q1,i,j,c,f,e,-aaa,-abn];refine aw u ?_;simp[v]
def Mu[dB G](n:Nat)(a:n<18446744073709551616):FP G 431 [.int .u64 n] (.str (br n)):=by have h:=zsd (G:=G) 15 n ah9 (by simpa using a) a;obtain⟨c,d,g,e,f⟩:=Vf 15 n (by simpa using a);have b:=(ztU c d an (λh=>(e h).1)).2;rw[f] at b;rw[b];refine bw dB.af5 (aab rfl) ?_;simp;refine aw h ?_;simp[show(2+(uZ 15 n).length<=9223372036854775807)=True from eq_true an]
def jL(v:Nat):List UInt8:=if eg v then iX v else []
def znJ[dB G][jW G](v:Nat)(j:v<4294967296):FP G 432 [.int .u32 v] (.str (jL v)):=by
 refine bw jW.af6 (aab rfl) ?_
 by_cases q:327680<=v/\v<=331775
 .have c:(327680<=(v:Int))=True:=ah7;have l:((v:Int)<=331775)=True:=ah7;have m:=Mu (G:=G) (v-327680) an;have r:=IQ (v-327680)
  have n:bO .u32 v 327680=((v-327680:Nat):Int):=by rw[OT j];omega
  have o:fc .u64 ((v-327680:Nat):Int)=((v-327680:Nat):Int):=IntWalk.u64_in _ ⟨an,an⟩
  have b:jL v=kO++br (v-327680):=by
   have d:eg v=true:=by simp[eg];omega
   have:=GI d;rw[jL,if_pos d];have a:=ZV (k:=v-327680) an;rw[show 327680+(v-327680)=v by omega] at a;exact(BT a).2
  rw[b];generalize br (v-327680)=T at *;generalize v-327680=k at *;simp[c,l,n,o];refine aw m ?_;simp[kO,show(6+T.length<=9223372036854775807)=True from eq_true an]
 .have c:(decide (327680<=(v:Int))&&decide ((v:Int)<=331775))=false:=by simp only[Bool.and_eq_false_iff,decide_eq_false_iff_not];omega
  by_cases a:v=0\/v=196608\/v=2147221504\/v=2147418112
  .rcases a with rfl|rfl|rfl|rfl
   .rw[show jL 0=[107,105,108,108] by decide];simp
   .rw[show jL 196608=[116,114,97,112] by decide];simp
   .rw[show jL 2147221504=[108,111,103] by decide];simp
   .rw[show jL 2147418112=[97,108,108,111,119] by decide];simp
  .have b:jL v=[]:=by
    have:eg v=false:=by simp[eg];omega
    rw[jL,this];rfl
   rw[b]
   have e:((v:Int)==0)=false:=by simp;omega
   have f:((v:Int)==196608)=false:=by simp;omega
   have g:((v:Int)==2147221504)=false:=by simp;omega
   have h:((v:Int)==2147418112)=false:=by simp;omega
   by_cases i:(327680:Int)<=(v:Int)
   .have p:((v:Int)<=331775)=False:=ah8;simp[i,p,e,f,g,h]
   .simp[i,e,f,g,h]
def cD(l:List (List UInt8)):List (List V):=l.map λw=>[.str w]
def zAe(a:List (List UInt8))(w:List UInt8):cD a++[[.str w]]=cD (a++[w]):=by simp[cD]
@[simp] theorem zIN (a:List (List UInt8)):(cD a).length=a.length:=by simp[cD]
theorem Dz{l:List (List UInt8)}{i:Nat}{x:List UInt8}(h:l[i]?=some x):(cD l)[i]?=some [.str x]:=by simp[cD,h]
def zw1(a:List (List UInt8)):(∀f∈cD a,f.length=1)=True:=by simp only[eq_iff_iff,iff_true];intro f b;simp only[cD,aaQ] at b;obtain⟨_,_,rfl⟩:=b;rfl
def mN(m:UInt8):List (List UInt8)×List UInt8->List UInt8->List (List UInt8)×List UInt8
 | q,[]=>q
 | q,b::s=>if b=m then mN m (q.1++[q.2],[]) s else mN m (q.1,q.2++[b]) s
def zqU(m:UInt8):∀(s:List UInt8) (q:List (List UInt8)×List UInt8),(mN m q s).1++[(mN m q s).2]=q.1++(match gY m s with|[]=>[]|w::r=>(q.2++w)::r)
 | [],q=>by simp[mN,gY]
 | b::s,q=>by
  have c:=Dh m s;unfold mN gY
  by_cases h:b=m
  .rw[if_pos h,if_pos h,zqU m s]
   cases a:gY m s with
   | nil=>exact absurd a c
   | cons w r=>simp
  .rw[if_neg h,if_neg h,zqU m s]
   cases a:gY m s with
   | nil=>exact absurd a c
   | cons w r=>simp
def zw2(m:UInt8):∀(a b:List UInt8) (q:List (List UInt8)×List UInt8),mN m q (a++b)=mN m (mN m q a) b
 | [],b,q=>rfl
 | x::a,b,q=>by
  simp only[abm,mN]
  split<;>exact zw2 m a b _
def zqV(m:UInt8):∀(s:List UInt8) (q:List (List UInt8)×List UInt8),(mN m q s).1.length<=q.1.length+s.length/\(mN m q s).2.length<=q.2.length+s.length
 | [],q=>by simp[mN]
 | b::s,q=>by
  unfold mN;split
  .have:=zqV m s (q.1++[q.2],[]);simp at this |-;omega
  .have:=zqV m s (q.1,q.2++[b]);simp at this |-;omega
def zw3[jM G](s:List UInt8)(m:UInt8)(E:s.length<=1000000):FP G 486 [.str s,.int .u8 (m.toNat:Nat)] (.vs (cD (gY m s)) .no):=by
 refine bw jM.agE (aab rfl) ?_;obtain⟨C,c⟩:∃C:Nat->List (List UInt8)×List UInt8,∀i,C i=mN m ([],[]) (s.take i):=⟨_,λ_=>rfl⟩
 have d:∀i,(C i).1.length<=1000000/\(C i).2.length<=1000000:=λi=>by
  have:=zqV m (s.take i) ([],[]);rw[<-c] at this;simp at this;omega
 have q:∀i b,s[i]?=some b->C (i+1)=if b=m then((C i).1++[(C i).2],[]) else((C i).1,(C i).2++[b]):=by intro i b e;rw[c,c,aap,e,zw2];simp only[ab4,mN]
 have t:gY m s=(C s.length).1++[(C s.length).2]:=by
  rw[c,aaE,zqU];have u:=Dh m s
  cases v:gY m s with
  | nil=>exact absurd v u
  | cons w r=>simp
 have j:C 0=([],[]):=by rw[c];rfl
 rw[t];simp;refine aO s.length (λi=>[(0,.str s),(1,.int .u8 (m.toNat:Nat)),(5,.vs (cD (C i).1) (.own 0)),(6,.str (C i).2),(7,.int .i64 i)]) (λi=>[some (.zone (C i).1.length)]) (λ_=>True) ?_ ?_
 .simp[av,ak,j,cD]
 intro i hi _;obtain⟨F,H⟩:=d i
 have l:((C i).1.length+1)*16<=140737488355328:=an
 have n:=zAe (C i).1 (C i).2;have o:=zw1 (C i).1
 rcases aaj hi with x|f
 .subst x;simp[l,o,n]
 .obtain⟨b,e⟩:∃b,s[i]?=some b:=⟨_,aaf f⟩;obtain⟨_,k⟩:=aae.1 e;have a:=q i b e
  have p:aC .i64 i 1=(i+1:Nat):=qq
  by_cases g:b=m
  .rw[if_pos g] at a;subst g;simp(disch:=omega)[f,k,l,o,n,a,p,av,ak,-aaa]
  .rw[if_neg g] at a;have y:((b.toNat:Int)==(m.toNat:Int))=false:=I0 λh=>g (ab0.1 h);have z:((i:Int)<=((i+1:Nat):Int))=True:=ah7;have A:(((i+1:Nat):Int)<=(s.length:Int))=True:=ah7
   have B:(s.drop i).take 1=[b]:=by rw[aaK f,k];rfl
   have D:((C i).2.length+1<=9223372036854775807)=True:=ah7;simp(disch:=omega)[f,k,y,a,p,z,A,B,D,av,ak,-aaa]
def zCK(x:Int):∃v:Nat,v<18446744073709551616/\IntKind.u64.wrap x=(v:Int):=by refine⟨(IntKind.u64.wrap x).toNat,?_⟩;simp only[IntKind.wrap,show IntKind.u64.signed=false from rfl];simp[IntKind.bits];omega
def zo1[iu G][dB G](s:List UInt8)(hl:s.length<=1000000):FP G 487 [.str s] (.bc [.int .u64 ((dH s).getD 0:Nat),.bool (dH s).isSome]):=by
 refine bw iu.agF (aab rfl) ?_
 cases E:dH s with
 | some n =>
  obtain⟨F,H⟩:=AA E;obtain⟨ds,o,p,I,h4,h5,h6⟩:=IP n F;rw[H] at o;have j:=Mu (G:=G) n F;rw[H] at j;obtain⟨N,Q⟩:=bb ds.length
  have l:s.length=N+2:=by rw[o];simp;omega
  have e:(((N:Int)+2)<3)=False:=ah8;have m:(18<(N:Int)+2)=False:=ah8;obtain⟨a,f⟩:∃a:Nat->Nat,∀i,a i=iE (ds.take i):=⟨_,λ_=>rfl⟩
  have R:a N=n:=by rw[f,Q,aaE,I]
  have T:a 0=0:=by rw[f];rfl
  simp(disch:=omega)[l,e,m];refine aO N (λk=>[(0,.str s),(4,.int .u64 (a k:Nat)),(5,.int .i64 (k+2:Nat))]) (λ_=>[]) (λ_=>True) ?_ ?_
  .simp[av,ak,T]
  intro k U _
  rcases aaj U with V|c
  .subst V;have W:(((k+2:Nat):Int)<((k+2:Nat):Int))=False:=ah8;simp(disch:=omega)[l,W,R,-aaa];refine aw j ?_;simp
  .have r:k<ds.length:=an
   obtain⟨d,hd⟩:=bb (ds[k])
   have t:ds[k]?=some d:=by rw[aaf r,hd]
   have X:d<16:=p d (aah t)
   have Y:s[k+2]?=some (ku d):=by rw[o,abz ir];simp[t]
   obtain⟨DR,J⟩:=aae.1 Y
   have Z:a (k+1)=16*a k+d:=by rw[f,f,aap,t];exact Gy _ _
   have ED:a k*16+16<=18446744073709551616:=by
    have:=Zy k (ds.take k) (by rw[aao];omega) (λy hy=>p y (aan hy));rw[<-f] at this;have p:16^k<=16^15:=Nat.pow_le_pow_right ah9 an
    have I:(16:Nat)^15=1152921504606846976:=by decide
    omega
   have K:(((k+2:Nat):Int)<((N+2:Nat):Int))=True:=ah7
   have g:aC .i64 ((k+2:Nat):Int) 1=(k+1+2:Nat):=qq
   have L:dS .u64 (a k:Int) 16=((a k*16:Nat):Int):=by unfold dS;rw[show(a k:Int)*16=((a k*16:Nat):Int) by omega];exact IntWalk.u64_in _ ⟨an,an⟩
   have M:aC .u64 ((a k*16:Nat):Int) (d:Int)=(a (k+1):Int):=by unfold aC;rw[Z,show((a k*16:Nat):Int)+(d:Int)=((16*a k+d:Nat):Int) by omega];exact IntWalk.u64_in _ ⟨an,an⟩
   by_cases u:d<10
   .have w:=zBw u;have x:fc .u64 ((48+d:Nat):Int)=((48+d:Nat):Int):=IntWalk.u64_in _ ⟨an,an⟩
    have z:bO .u64 ((48+d:Nat):Int) 48=(d:Int):=by unfold bO;rw[show((48+d:Nat):Int)-48=(d:Int) by omega];exact IntWalk.u64_in _ ⟨an,an⟩
    have A:((97:Int)<=((48+d:Nat):Int))=False:=ah8;simp(disch:=omega)[l,K,J,w,x,z,A,L,M,g,av,c,-aaa,-aas]
   .have w:=zBx X an;have x:fc .u64 ((87+d:Nat):Int)=((87+d:Nat):Int):=IntWalk.u64_in _ ⟨an,an⟩
    have z:bO .u64 ((87+d:Nat):Int) 87=(d:Int):=by unfold bO;rw[show((87+d:Nat):Int)-87=(d:Int) by omega];exact IntWalk.u64_in _ ⟨an,an⟩
    have A:((97:Int)<=((87+d:Nat):Int))=True:=ah7
    simp(disch:=omega)[l,K,J,w,x,z,A,L,M,g,av,c,-aaa,-aas]
 | none =>
  by_cases e:(s.length:Int)<3
  .simp[e]
  by_cases m:18<(s.length:Int)
  .simp[e,m]
  simp[e,m];refine u5 (S:=Nat×Nat) (λq=>s.length-q.1) (λq=>[(0,.str s),(4,.int .u64 (q.2:Nat)),(5,.int .i64 (q.1:Nat))]) (λ_=>[]) (λq=>q.1<=s.length/\q.2<18446744073709551616) (2,0) ?_ ?_
  .refine⟨⟨by simp only;omega,ah9⟩,?_,?_⟩<;>simp[av,ak]
  rintro⟨i,v⟩ ⟨p1,p2⟩;simp only at p1 p2 |-
  by_cases c:i<s.length
  .obtain⟨b,hb⟩:∃b,s[i]?=some b:=⟨_,aaf c⟩;obtain⟨_,O⟩:=aae.1 hb
   have g:aC .i64 i 1=(i+1:Nat):=qq
   by_cases P:(97:Int)<=(b.toNat:Int)
   .simp[c,O,P,g,-aaa];obtain⟨B,C,D⟩:=zCK (dS .u64 v 16+bO .u64 (fc .u64 b.toNat) 87);exact⟨(i+1,B),by simp only;omega,⟨by simp only;omega,C⟩,by simp only[<-D];simp[av,aC],by simp[ak]⟩
   .simp[c,O,P,g,-aaa];obtain⟨B,C,D⟩:=zCK (dS .u64 v 16+bO .u64 (fc .u64 b.toNat) 48);exact⟨(i+1,B),by simp only;omega,⟨by simp only;omega,C⟩,by simp only[<-D];simp[av,aC],by simp[ak]⟩
  .have j:=Mu (G:=G) v p2
   have az:(br v==s)=false:=by rw[beq_eq_false_iff_ne];exact λh=>OW E v ⟨p2,h⟩
   simp[c];refine aw j ?_;simp[az]
def NV(M:List (List UInt8×Int)):V:=.vs (cD (M.map (·.1))) .no
def KV(M:List (List UInt8×Int)):V:=.vs (M.map λp=>[.int .u32 p.2]) .no
def ztg{α:Type}(f:α->Bool):∀M:List α,∃N,N<=M.length/\(∀i p,i<N->M[i]?=some p->f p=false)/\(N<M.length->∃p,M[N]?=some p/\f p=true/\M.find? f=some p)/\(N=M.length->M.find? f=none)
 | []=>⟨0,aaI _,λi p h=>absurd h (abB _),λh=>absurd h (abB _),λ_=>rfl⟩
 | x::M=>by
  cases a:f x with
  | true=>exact⟨0,abv _,λi p h=>absurd h (abB _),λ_=>⟨x,rfl,a,by simp[a]⟩,λh=>by simp at h⟩
  | false =>
   obtain⟨N,c,d,e,g⟩:=ztg f M;refine⟨N+1,by simpa using c,?_,?_,?_⟩
   .intro i p hi b
    cases i with
    | zero=>simp at b;subst b;exact a
    | succ i=>exact d i p an (by simpa using b)
   .intro h;obtain⟨p,j,k,l⟩:=e (by simpa using h);exact⟨p,by simpa using j,k,by simp[a,l]⟩
   .intro h;have:=g (by simpa using h);simp[a,this]
def zqW[eD G][dB G]{M:List (List UInt8×Int)}(f:iP M)(t:M.length<=100)(n:Nat)(u:n<4294967296):FP G 490 [NV M,KV M,.int .u32 n] (.str (dc M n)):=by
 refine bw eD.agI (aab rfl) ?_;obtain⟨N,v,g,h,j⟩:=ztg (λp:List UInt8×Int=>p.2==(n:Int)) M;have k:fc .u64 n=(n:Int):=IntWalk.u64_in _ ⟨an,an⟩;have l:=Mu (G:=G) n an;simp[NV,KV]
 refine aO N (λi=>[(0,.vs (cD (M.map (·.1))) .no),(1,.vs (M.map λp=>[.int .u32 p.2]) .no),(2,.int .u32 n),(7,.int .i64 i)]) (λ_=>[]) (λ_=>True) ?_ ?_
 .simp[av,ak]
 intro i hi _
 rcases aaj hi with m|a
 .subst m
  by_cases a:i<M.length
  .obtain⟨p,b,c,o⟩:=h a
   have d:dc M n=p.1:=by
    have:pS M n=p.1:=by simp[pS,o]
    rw[dc,this,if_neg (f.cO p (aah b)).2.1]
   obtain⟨_,e⟩:=aae.1 b;rw[d];simp[a,e,c,cD]
  .have:i=M.length:=an
   subst this;have q:=j rfl
   have d:dc M n=br n:=by simp[dc,pS,q]
   rw[d];simp[k];refine aw l ?_;simp
 .obtain⟨p,b⟩:∃p,M[i]?=some p:=⟨_,aaf an⟩;have c:=g i p a b;obtain⟨r,e⟩:=aae.1 b
  have s:aC .i64 i 1=(i+1:Nat):=qq
  simp[r,e,c,s,av,ak,a,cD,-aaa]
def zw4[eD G][dB G][iu G]{M:List (List UInt8×Int)}(f:iP M)(x:M.length<=100)(s:List UInt8)(y:s.length<=1000000):FP G 491 [NV M,KV M,.str s] (.bc [.int .u32 ((pv M s).getD 0:Nat),.bool (pv M s).isSome]):=by
 refine bw eD.agJ (aab rfl) ?_;obtain⟨N,F,z,A,t⟩:=ztg (λp:List UInt8×Int=>p.1==s) M;have b:=zo1 (G:=G) s y;have u:=λn d=>zqW (G:=G) f x n d;simp only[NV,KV] at u;simp[NV,KV]
 refine aO N (λi=>[(0,.vs (cD (M.map (·.1))) .no),(1,.vs (M.map λp=>[.int .u32 p.2]) .no),(2,.str s),(8,.int .i64 i)]) (λ_=>[]) (λ_=>True) ?_ ?_
 .simp[av,ak]
 intro i hi _
 rcases aaj hi with c|e
 .subst c
  by_cases e:i<M.length
  .obtain⟨p,a,g,j⟩:=A e;rw[ZG j] at j;obtain⟨v,B,k⟩:=ztX f j;obtain⟨_,l⟩:=aae.1 a
   have m:p.1=s:=by simpa using g
   simp[e,l,m,cD,k,B]
  .have:i=M.length:=an
   subst this;have k:=ztY f (t rfl);rw[k]
   cases d:dH s with
   | none =>
    rw[d] at b;simp;refine aw b ?_
    simp
   | some n =>
    rw[d] at b;have C:=(AA d).2
    by_cases o:n<4294967296
    .have a:(4294967295<(n:Int))=False:=ah8;have q:fc .u32 n=(n:Int):=IntWalk.u32_in _ ⟨an,an⟩;have w:=u n o
     by_cases c:pS M n=[]
     .have r:dc M n=s:=by rw[dc,if_pos c,C]
      rw[r] at w;simp;refine aw b ?_;simp[a,q];refine aw w ?_;simp[q,o,c]
     .have r:(dc M n==s)=false:=by rw[beq_eq_false_iff_ne];intro h;exact c (ZF f (t rfl) h).1
      simp;refine aw b ?_;simp[a,q];refine aw w ?_;simp[c,r]
    .have a:(4294967295<(n:Int))=True:=ah7;simp;refine aw b ?_;simp[a,o]
 .obtain⟨p,a⟩:∃p,M[i]?=some p:=⟨_,aaf an⟩;have g:=z i p e a;obtain⟨D,l⟩:=aae.1 a
  have E:aC .i64 i 1=(i+1:Nat):=qq
  simp[D,l,g,E,av,ak,e,cD,-aaa]
def zk8[eD G]:FP G 488 [] (.bc [NV qj,KV qj]):=by refine bw eD.agG (aab rfl) ?_;simp[NV,KV,qj,cD]
def zxL[eD G][dB G](a:Nat)(b:a<4294967296):FP G 492 [.int .u32 a] (.str (dc qj a)):=by refine bw eD.agK (aab rfl) ?_;have w:=zqW (G:=G) Ey ah9 a b;have q:=zk8 (G:=G);simp only[NV,KV] at w q;simp;refine aw q ?_;simp;refine aw w ?_;simp
def zse[eD G][dB G][iu G](s:List UInt8)(a:s.length<=1000000):FP G 493 [.str s] (.bc [.int .u32 ((pv qj s).getD 0:Nat),.bool (pv qj s).isSome]):=by refine bw eD.agL (aab rfl) ?_;have w:=zw4 (G:=G) Ey ah9 s a;have q:=zk8 (G:=G);simp only[NV,KV] at w q;simp;refine aw q ?_;simp;refine aw w ?_;simp
def Ak:List (List Int):=[[0,1,2,3,60,57,62,9],[3,4,5,6,1,2,37,90],[63,64,1000000,57,93,1000000,129,222],[3,4,5,6,1,2,37,1000000]]
def Cy:List (List UInt8):=[C8,C9,Gz,C_,Db,GC,Dc,GD]
def sh(a i k:Nat):Option (List UInt8×Int):=if(qj.getD i ([],0)).2=(a:Int)/\(Ak.getD i []).getD k 0≠1000000 then some (Cy.getD k [],(Ak.getD i []).getD k 0) else none
def wG(a j:Nat):List (List UInt8×Int):=(abd j).filterMap λj=>sh a (j/8) (j%8)
def zCL(a i k:Nat)(d:k<8):wG a (8*i+k+1)=wG a (8*i+k)++(sh a i k).toList:=by
 have b:(8*i+k)/8=i:=an
 have c:(8*i+k)%8=k:=an
 unfold wG;rw[List.range_succ,List.filterMap_append,List.filterMap_cons,b,c]
 cases sh a i k<;>rfl
def zw5(a:Nat):wG a 32=pq a:=by
 by_cases b:a=3221225534
 .subst b;rfl
 by_cases c:a=1073741827
 .subst c;rfl
 by_cases d:a=3221225655
 .subst d;rfl
 by_cases f:a=1073741864
 .subst f;rfl
 have i:pq a=[]:=by simp[pq,GF,b,c,d,f]
 rw[i];unfold wG;rw[List.filterMap_eq_nil_iff];intro j g
 have g:j<32:=by simpa using g
 unfold sh;rw[if_neg];rintro⟨h,_⟩
 have:j/8=0\/j/8=1\/j/8=2\/j/8=3:=an
 rcases this with e|e|e|e<;>rw[e] at h<;>simp[qj] at h<;>omega
def zw6(a:Nat):∀j,(wG a j).length<=j:=λj=>by
 unfold wG;have:=List.length_filterMap_le (λj=>sh a (j/8) (j%8)) (abd j);simpa using this
def zHl{β:Type}(f:β->V)(l:List β):(∀x∈l.map (λb=>[f b]),x.length=1)=True:=by simp only[eq_iff_iff,iff_true];intro x a;simp only[aaQ] at a;obtain⟨_,_,rfl⟩:=a;rfl
def zuC[eD G](a:Nat):FP G 489 [.int .u32 a] (.bc [NV (pq a),KV (pq a)]):=by
 refine bw eD.agH (aab rfl) ?_;have W:=zk8 (G:=G);obtain⟨S,t⟩:∃S:Nat->List (List UInt8×Int),∀j,S j=wG a j:=⟨_,λ_=>rfl⟩
 have Y:∀j,(S j).length<=j:=λj=>by rw[t];exact zw6 a j
 have Z:S 0=[]:=by rw[t];rfl
 have Zl:∀i k,k<8->S (8*i+k+1)=S (8*i+k)++(sh a i k).toList:=λi k h=>by rw[t,t];exact zCL a i k h
 have F:pq a=S 32:=by rw[t];exact(zw5 a).symm
 rw[F];obtain⟨g,H⟩:∃g:List (List V),g=Cy.map λw=>[.str w]:=⟨_,rfl⟩;obtain⟨l,d⟩:∃l:List (List V),l=Ak.map λr=>[.vs (r.map λn=>[.int .u32 n]) .full]:=⟨_,rfl⟩;obtain⟨o,e⟩:∃o:List (List V),o=qj.map λp=>[.int .u32 p.2]:=⟨_,rfl⟩
 have u:∀M,NV M=.vs (cD (M.map (·.1))) .no:=λ_=>rfl
 have x:∀M,KV M=.vs (M.map λp=>[.int .u32 p.2]) .no:=λ_=>rfl
 have gN:∀k,k<8->g[k]?=some [.str (Cy.getD k [])]:=λk I=>by
  subst H
  have:k=0\/k=1\/k=2\/k=3\/k=4\/k=5\/k=6\/k=7:=an
  rcases this with rfl|rfl|rfl|rfl|rfl|rfl|rfl|rfl<;>rfl
 have gM:∀i,i<4->o[i]?=some [.int .u32 (qj.getD i ([],0)).2]:=λi hi=>by
  subst e
  have:i=0\/i=1\/i=2\/i=3:=an
  rcases this with rfl|rfl|rfl|rfl<;>rfl
 have gR:∀i,i<4->∃R,l[i]?=some [.vs R .full]/\∀k,k<8->R[k]?=some [.int .u32 ((Ak.getD i []).getD k 0)]:=λi hi=>by
  subst d
  have:i=0\/i=1\/i=2\/i=3:=an
  rcases this with rfl|rfl|rfl|rfl<;>refine⟨_,rfl,λk I=>?_⟩<;>(have:k=0\/k=1\/k=2\/k=3\/k=4\/k=5\/k=6\/k=7:=by omega)<;>rcases this with rfl|rfl|rfl|rfl|rfl|rfl|rfl|rfl<;>rfl
 have lN:g.length=8:=by subst H;rfl
 have lM:o.length=4:=by subst e;rfl
 have lR:l.length=4:=by subst d;rfl
 rw[u,x,<-e] at W;rw[u,x];obtain⟨c,q⟩:∃c:List (List UInt8×Int)->List (List V),∀M,c M=M.map λp=>[.int .u32 p.2]:=⟨_,λ_=>rfl⟩
 have J:∀M,(c M).length=M.length:=λM=>by rw[q];simp
 rw[<-q];simp;refine aw W ?_;simp
 refine aO 4 (λi=>[(0,.int .u32 a),(4,.vs g .full),(5,.int .u32 1000000),(6,.vs l .full),(8,.vs o .no),(9,.vs (cD ((S (8*i)).map (·.1))) (.own 0)),(10,.vs (c (S (8*i))) (.own 1)),(11,.int .i64 i)])
  (λi=>[some (.zone (S (8*i)).length),some (.zone (S (8*i)).length)]) (λ_=>True) ?_ ?_
 .simp[av,ak,Z,q,cD,H,d,Cy,Ak,C8,C9,Gz,C_,Db,GC,Dc,GD]
 intro i hi _
 rcases aaj hi with K|L
 .subst K;simp
 have xV:((i:Int)<4)=True:=ah7;obtain⟨R,y,N⟩:=gR i L;have D:=gM i L;obtain⟨m,X⟩:=bb ((qj.getD i ([],0)).2);rw[<-X] at D;simp[xV]
 refine aO 8 (λk=>[(0,.int .u32 a),(4,.vs g .full),(5,.int .u32 1000000),(6,.vs l .full),(8,.vs o .no),(9,.vs (cD ((S (8*i+k)).map (·.1))) (.own 0)),(10,.vs (c (S (8*i+k))) (.own 1)),(11,.int .i64 i),(12,.int .i64 k)])
  (λk=>[some (.zone (S (8*i+k)).length),some (.zone (S (8*i+k)).length)]) (λ_=>True) ?_ ?_
 .simp[av,ak]
 intro k I _
 have a0:aC .i64 i 1=(i+1:Nat):=qq
 rcases aaj I with K|s
 .subst K
  have:8*(i+1)=8*i+8:=an
  simp[av,ak,a0,L,this,-aaa]
 have O:=N k s;have z:=gN k s;have b:=Zl i k s;unfold sh at b;rw[<-X] at b;obtain⟨v,hv⟩:=bb ((Ak.getD i []).getD k 0);obtain⟨w,hw⟩:=bb (Cy.getD k []);rw[<-hv] at O b;rw[<-hw] at z b
 have P:aC .i64 k 1=(k+1:Nat):=qq
 have Q:((k:Int)<8)=True:=ah7;have hl:=Y (8*i+k);generalize S (8*i+k)=T at *
 have B5:(T.length+1)*16<=140737488355328:=an
 have ue:(T.length+1)*4<=140737488355328:=an
 have pj:=zw1 (T.map (·.1))
 have tN:(∀f∈c T,f.length=1)=True:=by rw[q];exact zHl (λp:List UInt8×Int=>V.int .u32 p.2) T
 obtain⟨A,E⟩:=bb (T++[(w,v)])
 have vF:A.length=T.length+1:=by simp[E]
 have CH:cD (T.map (·.1))++[[.str w]]=cD (A.map (·.1)):=by simp[cD,E]
 have Am:c T++[[.int .u32 v]]=c A:=by rw[q,q];simp[E]
 have U:8*i+(k+1)=8*i+k+1:=rfl
 cases B:(m==(a:Int)) with
 | false =>
  rw[if_neg (by rintro⟨h,_⟩;simp[h] at B)] at b
  simp[Q,D,B,P,s,U,b,av,ak,-aaa]
 | true =>
  cases C:(v !=1000000) with
  | false =>
   rw[if_neg (by rintro⟨_,h⟩;simp at C;exact h C)] at b
   simp[Q,D,B,y,O,C,P,s,U,b,av,ak,-aaa]
  | true =>
   rw[if_pos ⟨by simpa using B,by simpa using C⟩] at b;simp only[ab4,<-E] at b;simp[Q,D,B,y,O,z,C,P,s,U,b,B5,ue,pj,tN,J,vF,CH,Am,av,ak,-aaa]
def zuD(a:Nat):(pq a).length<=100:=by have:=zw6 a 32;rw[zw5] at this;omega
def zFe[eD G][dB G](a n:Nat)(b:n<4294967296):FP G 494 [.int .u32 a,.int .u32 n] (.str (dc (pq a) n)):=by refine bw eD.agM (aab rfl) ?_;have w:=zqW (G:=G) (Ez a) (zuD a) n b;have q:=zuC (G:=G) a;simp only[NV,KV] at w q;simp;refine aw q ?_;simp;refine aw w ?_;simp
def zw7[eD G][dB G][iu G](a:Nat)(s:List UInt8)(b:s.length<=1000000):FP G 495 [.int .u32 a,.str s] (.bc [.int .u32 ((pv (pq a) s).getD 0:Nat),.bool (pv (pq a) s).isSome]):=by refine bw eD.agN (aab rfl) ?_;have w:=zw4 (G:=G) (Ez a) (zuD a) s b;have q:=zuC (G:=G) a;simp only[NV,KV] at w q;simp;refine aw q ?_;simp;refine aw w ?_;simp
def wH:List Nat:=[0,196608,2147221504,2147418112]
def zuE{v:Nat}{s:List UInt8}(h:jL v=s)(a:s≠[]):eQ s=some v:=by
 unfold jL at h;split at h
 .rename_i b;rw[<-h];exact GI b
 .exact absurd h.symm a
def zHm(v:Nat):iX v≠[]:=by
 unfold iX;split
 .simp[kO]
 .rename_i h;exact h
def zy5{v:Nat}{s:List UInt8}(h:eQ s=some v):jL v=s:=by rw[jL,if_pos (BT h).1,(BT h).2]
def zFf{s:List UInt8}(a:∀v,eQ s=some v->v∉wH)(d:∀j<4096,6<s.length->jL (327680+j)≠s):eQ s=none:=by
 cases h:eQ s with
 | none=>rfl
 | some v =>
  obtain⟨e,f⟩:=BT h;have a:=a v h;have g:=e;simp only[eg,decide_eq_true_eq] at g;simp only[wH,aaH,abe,or_false] at a;obtain⟨k,i⟩:∃k,v=327680+k:=⟨v-327680,an⟩
  have l:k<=4095:=an
  subst i
  have b:6<s.length:=by have m:=ZV l;have c:=(BT m).2;rw[f] at c;rw[c];have:=abg.2 (zv7 k);simp[kO];omega
  exact absurd (zy5 h) (d k an b)
def zmF[eD G][dB G][jW G](s:List UInt8)(L:s.length<=1000000):FP G 496 [.str s] (.bc [.int .u32 ((eQ s).getD 0:Nat),.bool (eQ s).isSome]):=by
 refine bw eD.agO (aab rfl) ?_;obtain⟨b,o⟩:∃b:Nat,b=327680:=⟨_,rfl⟩;obtain⟨f,c⟩:∃f:List (List V),f=wH.map λn=>[.int .u32 (n:Nat)]:=⟨_,rfl⟩
 have C:∀i,i<4->f[i]?=some [.int .u32 (wH.getD i 0:Nat)]/\wH.getD i 0<4294967296/\wH.getD i 0∈wH/\eg (wH.getD i 0)=true:=λi hi=>by
  subst c
  have:i=0\/i=1\/i=2\/i=3:=an
  rcases this with rfl|rfl|rfl|rfl<;>exact⟨rfl,ah9,ah9,ah9⟩
 have M:f.length=4:=by subst c;rfl
 simp;refine aO 4 (λi=>[(0,.str s),(4,.vs f .full),(5,.int .i64 i)]) (λ_=>[]) (λi=>∀j<i,jL (wH.getD j 0)≠s) ?_ ?_
 .simp[av,ak,c,wH]
 intro i hi g
 rcases aaj hi with a|x
 .subst a
  have p:∀v,eQ s=some v->v∉wH:=by
   intro v d y;have:=zy5 d;simp only[wH,aaH,abe,or_false] at y
   rcases y with rfl|rfl|rfl|rfl
   .exact g 0 ah9 (by rw[show wH.getD 0 0=0 by decide];exact this)
   .exact g 1 ah9 (by rw[show wH.getD 1 0=196608 by decide];exact this)
   .exact g 2 ah9 (by rw[show wH.getD 2 0=2147221504 by decide];exact this)
   .exact g 3 ah9 (by rw[show wH.getD 3 0=2147418112 by decide];exact this)
  simp;obtain⟨N,O⟩:=bb 4096;refine aO N (λi=>[(0,.str s),(6,.int .u32 i)]) (λ_=>[]) (λi=>∀j<i,6<s.length->jL (b+j)≠s) ?_ ?_
  .simp[av,ak]
  intro n D z
  rcases aaj D with a|E
  .subst a;have F:((n:Int)<4096)=False:=ah8;have:eQ s=none:=zFf p (λj k=>by rw[<-o];exact z j an);rw[this];simp[F]
  .have e:((n:Int)<4096)=True:=ah7;have A:(n<N)=True:=eq_true E
   have q:aC .u32 327680 (n:Int)=((b+n:Nat):Int):=by unfold aC;rw[show(327680:Int)+(n:Int)=((b+n:Nat):Int) by omega];exact IntWalk.u32_in _ ⟨an,an⟩
   have B:aC .u32 n 1=((n+1:Nat):Int):=by unfold aC;rw[show(n:Int)+1=((n+1:Nat):Int) by omega];exact IntWalk.u32_in _ ⟨an,an⟩
   have l:=znJ (G:=G) (b+n) an
   by_cases r:6<s.length
   .have m:(6<(s.length:Int))=True:=ah7
    by_cases a:jL (b+n)=s
    .have d:=zuE a (by intro h;rw[h] at r;simp at r);rw[d];simp[e,m,q,-aaa];refine aw l ?_;simp[a,q,-aaa]
    .have t:(jL (b+n)==s)=false:=by simpa using a
     simp[e,m,q,-aaa];refine aw l ?_;simp[t,B,av,ak,A,-aaa];intro j k u
     rcases aaj (abc k) with h|h
     .rw[h];exact a
     .exact z j h u
   .have m:(6<(s.length:Int))=False:=ah8;simp[e,m,B,av,ak,A,-aaa];intro j k u;exact absurd u r
 .obtain⟨w,H,P,I⟩:=C i x;have e:((i:Int)<4)=True:=ah7
  have J:aC .i64 i 1=(i+1:Nat):=qq
  generalize d:wH.getD i 0=v at *;have l:=znJ (G:=G) v H
  by_cases a:jL v=s
  .have K:s≠[]:=by rw[<-a,jL,if_pos I];exact zHm v
   rw[zuE a K];simp[e,w];refine aw l ?_;simp[a,w]
  .have t:(jL v==s)=false:=by simpa using a
   simp[e,w];refine aw l ?_;simp[t,J,x,av,ak,-aaa];intro j k
   rcases aaj (abc k) with h|h
   .rw[aak] at d;rw[h,d];exact a
   .exact g j h
def QC:List (List UInt8):=[[101,113],[110,101],[108,116],[108,101],[103,116],[103,101]]
def zuF[fq G]:FP G 497 [] (.vs (cD QC) .no):=by refine bw fq.agP (aab rfl) ?_;simp[cD,QC]
def zuG{k:Nat}(h:k<6):(cD QC)[k]?=some [.str (iY k)]:=by
 have:k=0\/k=1\/k=2\/k=3\/k=4\/k=5:=an
 rcases this with rfl|rfl|rfl|rfl|rfl|rfl<;>rfl
def zuH[fq G][dB G](c:Cd)(j:c.right=true)(e:c.ok):FP G 498 [.agg c.cs] (.str (aP (k9 c))):=by
 refine bw fq.agQ (aab rfl) ?_;simp only[Cd.right,decide_eq_true_eq] at j;obtain⟨a,f⟩:∃a:Nat,c.arg=a:=⟨c.arg.toNat,an⟩;obtain⟨k,g⟩:∃k:Nat,c.cmp=k:=⟨c.cmp.toNat,an⟩;obtain⟨d,i⟩:∃d:List (List V),d=[[.str [48]],[.str [49]],[.str [50]],[.str [51]],[.str [52]],[.str [53]]]:=⟨_,rfl⟩
 have r:a<6:=an
 have l:d[a]?=some [.str [aaY (48+a)]]:=by
  subst i
  have:a=0\/a=1\/a=2\/a=3\/a=4\/a=5:=an
  rcases this with rfl|rfl|rfl|rfl|rfl|rfl<;>rfl
 have m:=Mu (G:=G) c.mask e.1;have o:=Mu (G:=G) c.val e.2;have w:=zuF (G:=G);have p:=zuG (k:=k) an;have s:=IQ c.mask;have t:=IQ c.val
 have u:(iY k).length<=2:=by unfold iY;repeat' (first|split|exact aaI _)
 have q:aP (k9 c)=97::aaY (48+a)::32::(br c.mask++32::(iY k++32::br c.val)):=by rw[k9,f,g];simp[aP]
 rw[q];simp only[Cd.cs,f,g];generalize br c.mask=M at *;generalize br c.val=U at *;generalize iY (k:Int)=W at *;generalize cD QC=WW at *;simp;rw[<-i];have b:∀n:Nat,n<=400->(n<=9223372036854775807)=True:=λn h=>eq_true an;simp(disch:=first|omega|(simp;omega))[l,b];refine aw m ?_;simp(disch:=first|omega|(simp;omega))[b];refine aw w ?_;simp(disch:=first|omega|(simp;omega))[p,b]
 refine aw o ?_;simp(disch:=first|omega|(simp;omega))[b]
def Vh[fq G](s:List UInt8)(o:Nat)(C:s.length<=1000000)(t:o<=1000001):∃o',FP G 499 [.str s,.int .i64 o] (.bc [.str (fX 32 (s.drop o)),.int .i64 (o':Nat)])/\s.drop o'=iF 32 (s.drop o)/\o'<=1000001:=by
 by_cases h:s.length<=o
 .refine⟨o,?_,?_,t⟩
  .refine bw fq.agR (aab rfl) ?_;have hd:s.drop o=[]:=aa2 h;have u:((o:Int)<(s.length:Int))=False:=ah8;have d:((s.length:Int)<=(o:Int))=True:=ah7;rw[hd];simp;refine aO 0 (λi=>[(0,.str s),(1,.int .i64 o),(6,.int .i64 o)]) (λ_=>[]) (λ_=>True) ?_ ?_
   .simp[av,ak]
   intro i hi _;simp[u,d,fX]
  .have hd:s.drop o=[]:=aa2 h;rw[hd];rfl
 .obtain⟨l,f,m,j,v⟩:=EE 32 (s.drop o);obtain⟨w,n⟩:=bb (fX 32 (s.drop o))
  have x:iF 32 (s.drop o)=s.drop (o+w.length+1):=by rw[n];unfold iF;rw[abD];congr 1
  rw[x];rw[<-n] at l f m j v |-
  have y:(s.drop o).length=s.length-o:=by simp
  rw[y] at l j;refine⟨o+w.length+1,?_,rfl,an⟩;refine bw fq.agR (aab rfl) ?_;simp;refine aO w.length (λi=>[(0,.str s),(1,.int .i64 o),(6,.int .i64 (o+i:Nat))]) (λ_=>[]) (λ_=>True) ?_ ?_
  .simp[av,ak]
  intro i hi _
  rcases aaj hi with z|p
  .subst z;have d:((s.length:Int)<=(o:Int))=False:=ah8;have q:((o:Int)<=((o+w.length:Nat):Int))=True:=ah7;have r:(((o+w.length:Nat):Int)<=(s.length:Int))=True:=ah7
   have g:aC .i64 ((o+w.length:Nat):Int) 1=(o+w.length+1:Nat):=qq
   have D:(s.drop o).take (o+w.length-o)=w:=by rw[show o+w.length-o=w.length by omega];exact f
   by_cases a:o+w.length<s.length
   .have c:=j an;rw[abb] at c;obtain⟨_,k⟩:=aae.1 c;simp[a,k,d,q,r,g,-aaa];exact⟨f,an⟩
   .simp[a,d,q,r,g,-aaa];exact⟨f,an⟩
  .have a:o+i<s.length:=an
   obtain⟨b,c⟩:∃b,s[o+i]?=some b:=⟨_,aaf a⟩;obtain⟨_,k⟩:=aae.1 c
   have A:b≠32:=by have:=m i p;rw[abb,c] at this;simpa using this
   have B:((b.toNat:Int) !=32)=true:=by have:b.toNat≠32:=λe=>A (ab0.1 e);simp;omega
   have g:aC .i64 ((o+i:Nat):Int) 1=((o+(i+1):Nat):Int):=qq
   simp[a,k,B,g,p,av,ak,-aaa]
def zCM[fq G][dB G][iu G](s:List UInt8)(z:s.length<=1000000):FP G 500 [.str s] (.bc [.agg ((d_ s).getD ⟨0,0,0,0⟩).cs,.bool (d_ s).isSome]):=by
 refine bw fq.agS (aab rfl) ?_;obtain⟨l,p0,A,l1⟩:=Vh (G:=G) s 0 z an;obtain⟨U,p1,I,l2⟩:=Vh (G:=G) s l z l1;obtain⟨o,p2,W,l3⟩:=Vh (G:=G) s U z l2;obtain⟨o4,p3,d4,l4⟩:=Vh (G:=G) s o z l3;rw[abu] at A p0;have p:∀t:List UInt8,(fX 32 t).length<=t.length:=λt=>(EE 32 t).1;have n1:=zo1 (G:=G) (fX 32 (s.drop l)) (by have:=p (s.drop l);simp at this;omega);have X:=zo1 (G:=G) (fX 32 (s.drop o)) (by have:=p (s.drop o);simp at this;omega)
 obtain⟨m,f⟩:=bb ((dH (fX 32 (s.drop l))).getD 0);obtain⟨v,g⟩:=bb ((dH (fX 32 (s.drop o))).getD 0)
 have J:m<18446744073709551616:=by
  rw[f]
  cases h:dH (fX 32 (s.drop l)) with
  | none=>simp
  | some n=>exact(AA h).1
 have K:v<18446744073709551616:=by
  rw[g]
  cases h:dH (fX 32 (s.drop o)) with
  | none=>simp
  | some n=>exact(AA h).1
 rw[<-f] at n1;rw[<-g] at X;obtain⟨w,L⟩:=bb (fX 32 (s.drop U));rw[<-L] at p2
 have d:∀c,d_ s=some c->∃a k:Nat,a<6/\k<6/\c=⟨a,k,m,v⟩/\w=iY k:=by
  intro c hc;obtain⟨b,Y⟩:=OX hc;have Z:=b.1;simp only[Cd.right,decide_eq_true_eq] at Z;have M:=λx hx=>ZI (Zz b.1 b.2 x hx);simp only[k9,aP] at Y M;simp only[aaH,abe,or_false,forall_eq_or_imp,forall_eq] at M;obtain⟨h0,B,C,q⟩:=M;have q0:=I1 (r:=br c.mask++32::(iY c.cmp++32::br c.val)) h0;have q1:=I1 (r:=iY c.cmp++32::br c.val) B;have q2:=I1 (r:=br c.val) C;have zd:fX 32 (br c.val)=br c.val:=zrH q
  rw[Y] at q0;rw[q0.2] at A;rw[A,q1.2] at I;rw[I,q2.2] at W;rw[A,q1.1,Tf b.2.1] at f;rw[W,zd,Tf b.2.2] at g;rw[I,q2.1] at L;simp only[aaU] at f g;refine⟨c.arg.toNat,c.cmp.toNat,an,an,?_,?_⟩
  .cases c;simp only at f g Z |-;subst f;subst g
   congr 1<;>omega
  .rw[L];congr 1;omega
 have df:∀a k:Nat,a<6->k<6->(⟨a,k,m,v⟩:Cd).df:=λa k ha u=>⟨by simp[Cd.right];omega,J,K⟩;have wd:=zuF (G:=G);simp;refine aw p0 ?_;simp;refine aw p1 ?_;simp;refine aw p2 ?_;simp;refine aw p3 ?_;simp;refine aw n1 ?_;simp;refine aw X ?_;simp;obtain⟨R,y⟩:=bb (d_ s);rw[<-y];have eU:∀a k:Nat,[V.int .i64 a,.int .i64 k,.int .u64 m,.int .u64 v]=(⟨a,k,m,v⟩:Cd).cs:=λ_ _=>rfl
 refine aO 6 (λa=>[(0,.str s),(2,.ptr 0 0),(8,.str w),(12,.int .u64 m),(14,.int .u64 v),(16,.int .i64 a)]) (λ_=>[some (.cells [.int .i64 0,.int .i64 0,.int .u64 0,.int .u64 0])])
  (λa=>∀i k:Nat,i<a->k<6->R≠some ⟨i,k,m,v⟩) ?_ ?_
 .simp[av,ak,ay.cl,aZ,V.cl]
 intro a ha iJ
 rcases aaj ha with N|zO
 .subst N
  have hn:R=none:=by
   cases h:R with
   | none=>rfl
   | some c =>
    obtain⟨i,k,B,C,q,O⟩:=d c (by rw[<-y,h]);exact absurd (by rw[h,q]) (iJ i k B C)
  rw[hn];simp[Cd.cs]
 have ca:((a:Int)<6)=True:=ah7
 have a0:aC .i64 a 1=(a+1:Nat):=qq
 simp[ca]
 refine aO 6 (λk=>[(0,.str s),(2,.ptr 0 0),(8,.str w),(12,.int .u64 m),(14,.int .u64 v),(16,.int .i64 a),(17,.int .i64 k)]) (λ_=>[some (.cells [.int .i64 0,.int .i64 0,.int .u64 0,.int .u64 0])])
  (λk=>∀j:Nat,j<k->R≠some ⟨a,j,m,v⟩) ?_ ?_
 .simp[av,ak,ay.cl,aZ,V.cl]
 intro k u UQ
 rcases aaj u with N|D
 .subst N;simp[a0,zO,av,ak,ay.cl,aZ,V.cl,-aaa];intro i k hi u
  rcases aaj (abc hi) with h|h
  .rw[h];exact UQ k u
  .exact iJ i k h u
 have ck:((k:Int)<6)=True:=ah7
 have k0:aC .i64 k 1=(k+1:Nat):=qq
 have P:=zuG D;have b:=df a k zO D;have E:=zuH (G:=G) ⟨a,k,m,v⟩ b.1 b.2;obtain⟨T,Q⟩:=bb (aP (k9 ⟨a,k,m,v⟩));rw[<-Q] at E
 have yk:R≠some ⟨a,k,m,v⟩->∀j:Nat,j<k+1->R≠some ⟨a,j,m,v⟩:=by
  intro h j hj
  rcases aaj (abc hj) with e|e
  .rw[e];exact h
  .exact UQ j e
 generalize cD QC=WW at *;simp only[Cd.cs] at E;simp[ck];refine aw wd ?_
 cases F:(w==iY k) with
 | false =>
  have S:R≠some ⟨a,k,m,v⟩:=by
   intro h;obtain⟨i,j,B,C,q,O⟩:=d _ (by rw[<-y,h]);simp only[Cd.mk.injEq] at q
   have:j=k:=an
   rw[this] at O;simp[O] at F
  simp[P,F,k0,D,av,ak,ay.cl,aZ,V.cl,-aaa]
  exact yk S
 | true =>
  cases H:(T==s) with
  | false =>
   have S:R≠some ⟨a,k,m,v⟩:=by intro h;have:=(OX (y▸h)).2;rw[<-Q] at this;simp[this] at H
   simp[P,F];refine aw E ?_;simp[H,k0,D,av,ak,ay.cl,aZ,V.cl,-aaa]
   exact yk S
  | true =>
   have nS:R=some ⟨a,k,m,v⟩:=by rw[y];exact zwa b (by rw[<-Q];simpa using H)
   rw[nS];simp[P,F];refine aw E ?_;simp[H,Cd.cs]
def zCN[fq G][dB G][eD G][jW G][g7 G](r:Ru)(d:r.cO):FP G 501 [.agg r.cs] (.str (aP (qX r))):=by
 refine bw g7.agT (aab rfl) ?_;obtain⟨o,w,y,p,N⟩:=BX d;have q:=znJ (G:=G) r.act (Lu p);rw[jL,if_pos p] at q;have z:=zxL (G:=G) r.aA w;have B:=zFe (G:=G) r.aA r.nr y;have O:=Tc Ey (v:=r.aA);have Q:=Tc (Ez r.aA) (v:=r.nr);have R:=zv8 (v:=r.act);have s:=zrL r;obtain⟨T,e⟩:∃T:Nat->List UInt8,∀i,T i=De r i:=⟨_,λ_=>rfl⟩
 have D:∀i,i<=r.conds.length->(T i).length<=80+50*i:=λi hi=>by rw[e];exact zt0 r i hi
 have E:∀i c,r.conds[i]?=some c->T (i+1)=T i++(32::xP i++32::Lx c):=λi c h=>by rw[e,e];exact zrM h
 have f:T r.conds.length=aP (qX r):=by rw[e];exact zBC r
 rw[<-f];rw[<-e] at s;generalize dc qj r.aA=M at *;generalize dc (pq r.aA) r.nr=C at *;generalize iX r.act=A at *
 have F:T 0=111::110::32::(M++32::(C++32::A)):=by rw[s];simp
 have a:∀n:Nat,n<=400->(n<=9223372036854775807)=True:=λn h=>eq_true an;simp only[Ru.cs];simp;refine aw z ?_;simp(disch:=first|omega|(simp;omega))[a];refine aw B ?_;simp(disch:=first|omega|(simp;omega))[a];refine aw q ?_;simp(disch:=first|omega|(simp;omega))[a];refine aO r.conds.length (λi=>[(1,.ptr 0 0),(3,.str (T i)),(4,.int .i64 i)]) (λ_=>[some (.cells r.cs)]) (λ_=>True) ?_ ?_
 .simp[av,ak,F,Ru.cs]
 intro i hi _
 by_cases b:i<r.conds.length
 .obtain⟨x,H⟩:=bb (r.conds[i])
  have d:r.conds[i]?=some x:=by rw[aaf b,H]
  have t:=aah d;have g:=Mz d
  have j:(CL r.conds)[i]'(by simpa using b)=x.cs:=by rw[aaf (by simpa using b)] at g;exact Option.some.inj g
  have k:=zuH (G:=G) x (o x t).1 (o x t).2;have l:=E i x d;have S:=D i hi;have I:=ztZ x
  have J:aC .i64 i 1=(i+1:Nat):=qq
  have K:((i:Int)<(r.conds.length:Int))=True:=ah7;rw[show Lx x=aP (k9 x) from rfl] at l I;simp only[Cd.cs] at k g j;generalize aP (k9 x)=P at *
  by_cases u:i=0
  .subst u
   have m:T 0++32::105::102::32::P=T (0+1):=by rw[l];simp[xP]
   simp(disch:=first|omega|(simp;omega))[b,j,Ru.cs,a];refine aw k ?_;simp(disch:=first|omega|(simp;omega))[m,a,av,ak,b,show aC .i64 0 1=1 by decide,-aaa]
  .have L:((i:Int)==0)=false:=by simp;omega
   have m:T i++32::97::110::100::32::P=T (i+1):=by rw[l];simp[xP,u]
   simp(disch:=first|omega|(simp;omega))[K,j,L,Ru.cs,a];refine aw k ?_;simp(disch:=first|omega|(simp;omega))[m,a,av,ak,J,b,-aaa]
 .have:i=r.conds.length:=an
  subst this;simp[Ru.cs]
def zsg:∀(l:List Cd) (k:Nat),(jc k l).length=5*l.length
 | [],k=>rfl
 | c::l,k=>by
  simp only[jc,aa1,aaD,zsg l (k+1)];simp[k9];omega
def zp9:∀(j k:Nat) (l:List Cd),(jc k l).drop (5*j)=jc (k+j) (l.drop j)
 | 0,k,l=>rfl
 | j+1,k,[]=>by simp[jc]
 | j+1,k,c::l=>by
  rw[show 5*(j+1)=5*j+5 by omega];simp only[jc,k9,abm,abU,abt];rw[zp9 j (k+1) l]
  congr 1;omega
def znL{s:List UInt8}{y:Ru}(h:tP s=some y):y.cO/\∃M C A,gY 32 s=[111,110]::M::C::A::jc 0 y.conds/\pv qj M=some y.aA/\pv (pq y.aA) C=some y.nr/\eQ A=some y.act:=by obtain⟨a,b⟩:=TA h;obtain⟨f,c,d,e,g⟩:=BX a;exact⟨a,_,_,_,b.symm,Lt Ey c,Lt (Ez _) d,GI e⟩
def zCO{s:List UInt8}{y:Ru}(h:tP s=some y){j:Nat}(f:j<y.conds.length){a b c d:List UInt8}{r:List (List UInt8)}(e:(gY 32 s).drop (4+5*j+1)=a::b::c::d::r) :
  d_ (aP [a,b,c,d])=some y.conds[j]:=by
 obtain⟨g,M,C,A,i,_⟩:=znL h;rw[i,show 4+5*j+1=(5*j+1)+4 by omega] at e;simp only[abt] at e;rw[<-abD,zp9,aaK f] at e;simp only[jc,abm,abt,abu] at e;have k:=(BX g).1 _ (aba f)
 have:[a,b,c,d]=k9 y.conds[j]:=by have:=congrArg (List.take 4) e;simpa[k9] using this.symm
 rw[this];exact ZK k
def zCP[jM G][fq G][dB G][iu G][eD G][jW G][g7 G](s:List UInt8)(hs:s.length<=20000):FP G 502 [.str s] (.bc [.agg ((tP s).getD ⟨0,0,[],0⟩).cs,.bool (tP s).isSome]):=by
 refine bw g7.agU (aab rfl) ?_;have Z:=zw3 (G:=G) s 32 an;rw[show((abC 32:Nat):Int)=32 from rfl] at Z;obtain⟨w,t⟩:=bb (gY 32 s);obtain⟨R,H⟩:=bb (tP s)
 have Cz:aP w=s:=by rw[t];exact Tx s
 have hm:∀x∈w,gJ x:=by rw[t];exact Tz s
 have u:∀x∈w,x.length<=20000:=by
  intro x m
  have:∀(l:List (List UInt8)),x∈l->x.length<=(aP l).length:=by
   intro l
   induction l with
   | nil=>simp
   | cons v l ih =>
    intro h
    rcases aaH.1 h with rfl|h
    .exact EF (x::l)
    .have:=ih h;have:=Z1 v l;omega
  have:=this w m;rw[Cz] at this;omega
 have hb:=Z2 w;rw[Cz] at hb;rw[<-t] at Z;rw[<-H]
 have e:∀y,R=some y->4<=w.length/\w.length<=24/\(w.length-4)%5=0/\w.length=4+5*y.conds.length:=by intro y p;obtain⟨hg,M,C,A,O,_⟩:=znL (H▸p);have h4:=(BX hg).2.2.2.2;rw[t,O];simp only[aa1,zsg];omega
 simp;refine aw Z ?_;have zero:V.bc [.agg [.int .u32 0,.int .u32 0,.vs [] .no,.int .u32 0],.bool false]=.bc [.agg ((none:Option Ru).getD ⟨0,0,[],0⟩).cs,.bool (none:Option Ru).isSome]:=rfl
 by_cases c1:w.length<4
 .have k:R=none:=by
   cases h:R with
   | none=>rfl
   | some y=>have:=e y h;omega
  have P:((w.length:Int)<4)=True:=ah7;rw[k,<-zero];simp[P]
 have P:((w.length:Int)<4)=False:=ah8
 by_cases c2:24<w.length
 .have k:R=none:=by
   cases h:R with
   | none=>rfl
   | some y=>have:=e y h;omega
  have Vj:(24<(w.length:Int))=True:=ah7;rw[k,<-zero];simp[P,Vj]
 have Vj:(24<(w.length:Int))=False:=ah8
 have e1:bO .i64 w.length 4=((w.length-4:Nat):Int):=by rw[nW an an];omega
 have e2:gn ((w.length-4:Nat):Int) 5=(((w.length-4)%5:Nat):Int):=wT (b:=5)
 by_cases c3:(w.length-4)%5=0
 rotate_left
 .have k:R=none:=by
   cases h:R with
   | none=>rfl
   | some y=>have:=e y h;omega
  have OZ:((((w.length-4)%5:Nat):Int) !=0)=true:=by simp;omega
  rw[k,<-zero];simp[P,Vj,e1,e2,OZ,-aaF]
 have OZ:((((w.length-4)%5:Nat):Int) !=0)=false:=by simp;omega
 obtain⟨N,hN⟩:∃N,w.length=4+5*N:=⟨(w.length-4)/5,an⟩
 have hp:N<=4:=an
 obtain⟨w0,M,C,A,WR,z⟩:∃w0 M C A WR,w=w0::M::C::A::WR:=by
  match w,c1 with
  | a::b::c::d::r,_=>exact⟨a,b,c,d,r,rfl⟩
  | [],h=>simp at h
  | [_],h=>simp at h
  | [_,_],h=>simp at h
  | [_,_,_],h=>simp at h
 have pM:=zse (G:=G) M (by have:=u M (by rw[z];simp);omega);obtain⟨a,B⟩:=bb ((pv qj M).getD 0);have pC:=zw7 (G:=G) a C (by have:=u C (by rw[z];simp);omega);obtain⟨n,k⟩:=bb ((pv (pq a) C).getD 0);have pA:=zmF (G:=G) A (by have:=u A (by rw[z];simp);omega);obtain⟨v,hv⟩:=bb ((eQ A).getD 0);rw[<-B] at pM;rw[<-k] at pC;rw[<-hv] at pA;have g1:(cD w)[1]?=some [.str M]:=Dz (by rw[z];rfl)
 have g2:(cD w)[2]?=some [.str C]:=Dz (by rw[z];rfl);have g3:(cD w)[3]?=some [.str A]:=Dz (by rw[z];rfl)
 have g:∀y,R=some y->pv qj M=some y.aA/\pv (pq y.aA) C=some y.nr/\eQ A=some y.act/\y.cO/\qX y=w/\y.conds.length=N:=by intro y p;obtain⟨hg,M',C',A',O,I,E,J⟩:=znL (H▸p);have hl:=(e y p).2.2.2;rw[<-t,z] at O;simp only[ab_.injEq] at O;obtain⟨_,rfl,rfl,rfl,_⟩:=O;exact⟨I,E,J,hg,by rw[t];exact(TA (H▸p)).2,an⟩
 obtain⟨q,K⟩:=bb (cD w)
 have Q:q.length=w.length:=by rw[K];simp
 rw[<-K] at Z g1 g2 g3 |-;simp[P,Vj,e1,e2,OZ,Q,g1,-aaF];refine aw pM ?_;simp[g2];refine aw pC ?_;simp[g3];refine aw pA ?_;obtain⟨b1,jC⟩:=bb ((pv qj M).isSome);obtain⟨b2,iS⟩:=bb ((pv (pq a) C).isSome);obtain⟨b3,tV⟩:=bb ((eQ A).isSome);rw[<-jC,<-iS,<-tV]
 by_cases aT:b1=true/\b2=true/\b3=true
 rotate_left
 .have k:R=none:=by
   cases h:R with
   | none=>rfl
   | some y =>
    obtain⟨I,E,J,_⟩:=g y h;rw[I] at B jC;simp only[aaU] at B;rw[<-B] at E;rw[E] at iS;rw[J] at tV;exact absurd ⟨jC,iS,tV⟩ aT
  rw[k,<-zero]
  cases b1<;>cases b2<;>cases b3<;>first|(exact absurd ⟨rfl,rfl,rfl⟩ aT)|simp
 obtain⟨rfl,rfl,rfl⟩:=aT;obtain⟨a',oI⟩:=abh.1 jC.symm;rw[oI] at B;simp only[aaU] at B;subst B;obtain⟨n',yI⟩:=abh.1 iS.symm;rw[yI] at k;simp only[aaU] at k;subst k;obtain⟨v',Dg⟩:=abh.1 tV.symm;rw[Dg] at hv;simp only[aaU] at hv;subst hv;have U:=(BT Dg).1;simp
 refine u5 (S:=List Cd) (λcs=>N-cs.length) (λcs=>[(0,.str s),(2,.ptr 0 0),(4,.vs q .no),(5,.ptr 1 0),(12,.int .i64 (4+5*cs.length:Nat))])
  (λcs=>[some (.cells [.int .u32 0,.int .u32 0,.vs [] .full,.int .u32 0]),some (.cells [.int .u32 a,.int .u32 n,.vs (CL cs) (.own 2),.int .u32 v]),some (.zone cs.length)])
  (λcs=>cs.length<=N/\(∀c∈cs,c.df)/\∀y,R=some y->y.conds.take cs.length=cs) [] ?_ ?_
 .refine⟨⟨abv _,ir,λy _=>by simp⟩,?_,?_⟩
  .simp[av]
  .simp[ak,ay.cl,aZ,V.cl,Tk.cl,CL]
 rintro cs ⟨p1,p2,p3⟩
 by_cases ah:cs.length<N
 .have hL:((4+5*cs.length:Nat):Int)<(w.length:Int):=an
  obtain⟨o,ho⟩:=bb (4+5*cs.length)
  obtain⟨x1,x2,x3,x4,xr,m⟩:∃x1 x2 x3 x4 xr,w.drop (o+1)=x1::x2::x3::x4::xr:=by
   have hl:4<=(w.drop (o+1)).length:=by simp;omega
   match w.drop (o+1),hl with
   | a::b::c::d::r,_=>exact⟨a,b,c,d,r,rfl⟩
  have gx:∀i x,(x1::x2::x3::x4::xr)[i]?=some x->w[o+1+i]?=some x:=λi x h=>by rw[<-abb,m];exact h
  have y1:=gx 0 x1 rfl;have y2:=gx 1 x2 rfl;have y3:=gx 2 x3 rfl;have y4:=gx 3 x4 rfl;have k1:=u x1 (aah y1);have k2:=u x2 (aah y2);have k3:=u x3 (aah y3);have k4:=u x4 (aah y4)
  have z1:q[o+1]?=some [.str x1]:=by rw[K];exact Dz y1
  have z2:q[o+2]?=some [.str x2]:=by rw[K];exact Dz y2
  have z3:q[o+3]?=some [.str x3]:=by rw[K];exact Dz y3
  have z4:q[o+4]?=some [.str x4]:=by rw[K];exact Dz y4
  have q1:=(aae.1 z1).2;have q2:=(aae.1 z2).2;have q3:=(aae.1 z3).2;have q4:=(aae.1 z4).2
  have i1:aC .i64 o 1=(o+1:Nat):=qq
  have i2:aC .i64 o 2=(o+2:Nat):=qq
  have i3:aC .i64 o 3=(o+3:Nat):=qq
  have i4:aC .i64 o 4=(o+4:Nat):=qq
  have i5:aC .i64 o 5=(o+5:Nat):=qq
  have Ac:aP [x1,x2,x3,x4]=x1++32::(x2++32::(x3++32::x4)):=by simp[aP]
  have F:=zCM (G:=G) (aP [x1,x2,x3,x4]) (by rw[Ac];simp;omega);rw[Ac] at F
  have JJ:∀y,R=some y->d_ (x1++32::(x2++32::(x3++32::x4)))=y.conds[cs.length]?:=by intro y p;have hh:=(g y p).2.2.2.2.2;have:=zCO (H▸p) (j:=cs.length) an (r:=xr) (a:=x1) (b:=x2) (c:=x3) (d:=x4) (by rw[<-t,<-ho];exact m);rw[Ac] at this;rw[this,aaf an]
  obtain⟨D,hD⟩:∃D,D=d_ (x1++32::(x2++32::(x3++32::x4))):=⟨_,rfl⟩;rw[<-hD] at F JJ;rw[<-ho] at hL |-;have W:((o:Int)<(w.length:Int))=True:=eq_true hL;have s1:(x1.length+1<=9223372036854775807)=True:=ah7;have b9:∀n:Nat,n<=100000->(n<=9223372036854775807)=True:=λn h=>eq_true an
  have l1:((o+1:Nat):Int)<(w.length:Int):=an
  have ju:((cs.length+1)*32<=140737488355328)=True:=ah7;have GJ:(∀f∈CL cs,f.length=4)=True:=eq_true (by intro f hf;simp only[CL,aaQ] at hf;obtain⟨y,_,rfl⟩:=hf;rfl)
  cases X:D with
  | none =>
   have k:R=none:=by
    cases h:R with
    | none=>rfl
    | some y =>
     have:=JJ y h;have hh:=(g y h).2.2.2.2.2;rw[X,aaf an] at this;cases this
   rw[X] at F;rw[k,<-zero];simp(disch:=first|omega|(simp;omega))[W,Q,q1,q2,q3,q4,i1,i2,i3,i4,b9,-aaa];refine aw F ?_
   simp[Cd.cs]
  | some c =>
   have eK:CL cs++[c.cs]=CL (cs++[c]):=by simp[CL]
   rw[X] at F;simp only[aaU,Cd.cs,abJ] at F eK;simp(disch:=first|omega|(simp;omega))[W,Q,q1,q2,q3,q4,i1,i2,i3,i4,b9,-aaa];refine aw F ?_;simp(disch:=first|omega|(simp;omega))[ju,GJ,eK,i5,-aaa];refine⟨cs++[c],?_,⟨by simp;omega,?_,?_⟩,?_,?_⟩
   .simp;omega
   .intro x m
    rcases aaJ.1 m with m|m
    .exact p2 x m
    .rw[aa7.1 m];exact(OX (hD▸X)).1
   .intro y p;have h1:=JJ y p;rw[X] at h1;rw[aaD,List.length_singleton,aap,p3 y p,<-h1];rfl
   .have e5:o+5=4+5*(cs.length+1):=an
    simp[av,e5,-aaa,-aas]
   .simp[ak,ay.cl,aZ,V.cl,Tk.cl]
 .have hj:cs.length=N:=an
  have W:(((4+5*cs.length:Nat):Int)<(w.length:Int))=False:=ah8
  have QT:cs.length<=4:=an
  have m:(⟨a,n,cs,v⟩:Ru).cO:=by refine⟨?_,λc L=>(p2 c L).2,(Th oI).1,(Th yI).1,Lu U⟩;simp only[jr,aai,decide_eq_true_eq,aav];exact⟨⟨λc L=>(p2 c L).1,U⟩,QT⟩
  have pL:=zCN (G:=G) ⟨a,n,cs,v⟩ m;obtain⟨T,hT⟩:=bb (aP (qX ⟨a,n,cs,v⟩));rw[<-hT] at pL;simp only[Ru.cs] at pL
  cases Y:(T==s) with
  | true =>
   have hr:R=some ⟨a,n,cs,v⟩:=by
    rw[H];refine Z8 m ?_
    have:aP (qX ⟨a,n,cs,v⟩)=s:=by rw[<-hT];simpa using Y
    rw[<-this,zD4 (zD5 _) (zzQ m)]
   rw[hr];simp[W,Q,-aaa];refine aw pL ?_
   simp[Y,Ru.cs]
  | false =>
   have k:R=none:=by
    cases h:R with
    | none=>rfl
    | some y =>
     obtain⟨I,E,J,hg,hk,hl⟩:=g y h;have L:=p3 y h;rw[hj,<-hl,aaE] at L;rw[oI] at I;cases I;rw[yI] at E;cases E;rw[Dg] at J;cases J
     have:aP (qX y)=s:=by rw[hk,Cz]
     rw[<-L] at hT;rw[hT,this] at Y;simp at Y
   rw[k,<-zero];simp[W,Q,-aaa];refine aw pL ?_;simp[Y]
def Al:List (List UInt8)->Nat
 | []=>0
 | w::r=>w.length+1+Al r
def zqX(m:UInt8):∀s,Al (gY m s)=s.length+1
 | []=>rfl
 | b::s=>by
  have a:=zqX m s;unfold gY;split
  .simp only[Al,a,abW,aa1];omega
  .cases h:gY m s with
   | nil=>exact absurd h (Dh m s)
   | cons w r =>
    rw[h] at a;simp only[Al,aa1] at a |-;omega
def zsh[jM G][fq G][dB G][iu G][eD G][jW G][g7 G](S:List UInt8)(ha:S.length<=20000):FP G 503 [.str S] (pT (eo S)):=by
 refine bw g7.agV (aab rfl) ?_;have R:(20000<(S.length:Int))=False:=ah8;obtain⟨T,BY⟩:=bb (eo S);rw[<-BY];have J:=zw3 (G:=G) S 10 an;rw[show((abC 10:Nat):Int)=10 from rfl] at J;obtain⟨L,hL⟩:=bb (gY 10 S);have Hk:=zqX 10 S;have az:=Dh 10 S;rw[<-hL] at J Hk az;obtain⟨A,m⟩:=bb (cD L)
 have n:A.length=L.length:=by rw[m];simp
 rw[<-m] at J;have h0:0<L.length:=abg.2 az
 have zN:∀l:List (List UInt8),l.length<=Al l:=λl=>by
  induction l with
  | nil=>simp
  | cons w l ih=>simp only[Al,aa1];omega
 have hb:=zN L;simp[R];refine aw J ?_;simp
 refine u5 (S:=Nat×Nat×List Ru×Option Nat) (λq=>L.length-q.1) (λq=>[(0,.str S),(2,.ptr 0 0),(5,.ptr 1 0),(6,.vs A .no),(7,.int .i64 (q.2.1:Nat)),(8,.bool q.2.2.2.isSome),(9,.int .i64 (q.1:Nat))])
  (λq=>[some (.cells [.vs [] .full,.int .u32 0]),some (.cells [.vs (RL q.2.2.1) (.own 2),.int .u32 (q.2.2.2.getD 0:Nat)]),some (.zone q.2.2.1.length)])
  (λq=>q.1<L.length/\q.2.2.1.length<=64/\q.2.1+Al (L.drop q.1)=S.length+1/\uN q.2.1 q.2.2.1 q.2.2.2 (L.drop q.1)=T) (0,0,[],none) ?_ ?_
 .refine⟨⟨h0,ir,by simpa using Hk,by rw[BY,hL];rfl⟩,?_,?_⟩
  .simp[av]
  .simp[ak,ay.cl,aZ,V.cl,Tk.cl,RL]
 rintro⟨i,o,rs,dn⟩ ⟨p1,p2,p3,p4⟩;simp only at p1 p2 p3 p4 |-;obtain⟨w,hw⟩:=bb (L[i])
 have W:L[i]?=some w:=by rw[aaf p1,hw]
 have g:A[i]?=some [.str w]:=by rw[m];exact Dz W
 rw[aaK p1,<-hw] at p3 p4;simp only[Al] at p3;have p:((i:Int)<(L.length:Int))=True:=ah7
 have s:bO .i64 L.length 1=((L.length-1:Nat):Int):=by rw[nW an an];omega
 have i3:aC .i64 i 1=(i+1:Nat):=qq
 have wl:w.length<=20000:=an
 have c:∀k:Nat,T=(mE,o,k)->pT T=.bc [.agg [.vs [] .no,.int .u32 0],.int .i64 o,.int .i64 k]:=λk h=>by rw[h];rfl
 by_cases zd:i+1=L.length
 .have X:L.drop (i+1)=[]:=aa2 an;rw[X] at p3 p4;simp only[Al,uN,if_true] at p3 p4
  have j:((i:Int)==((L.length-1:Nat):Int))=true:=by simp;omega
  by_cases B:w=[]
  .rw[if_pos B] at p4
   have K:(w==[])=true:=by simpa using B
   have ho:o=S.length:=by rw[B] at p3;simp at p3;omega
   cases dn with
   | none =>
    simp only at p4;rw[c 5 p4.symm,ho]
    simp[n,p,s,j,g,K]
   | some v =>
    simp only at p4;rw[<-p4];simp[n,p,s,j,g,K,pT,Po.cs]
  .rw[if_neg B] at p4
   have K:(w==[])=false:=by simpa using B
   rw[c 2 p4.symm];simp[n,p,s,j,g,K]
 have X:L.drop (i+1)≠[]:=by intro h;have:=congrArg ab9 h;simp at this;omega
 have j:((i:Int)==((L.length-1:Nat):Int))=false:=by simp;omega
 simp only[uN,if_neg X] at p4
 cases FW:dn with
 | some v =>
  rw[FW] at p4;simp only at p4;rw[c 2 p4.symm]
  simp[n,p,s,j]
 | none =>
  subst FW;simp only at p4;have e:=zCP (G:=G) w wl
  have a1:aC .i64 o (w.length:Int)=(o+w.length:Nat):=qq
  have a2:aC .i64 ((o+w.length:Nat):Int) 1=(o+w.length+1:Nat):=qq
  have my:o+w.length+1+Al (L.drop (i+1))=S.length+1:=an
  cases hl:tP w with
  | some x =>
   rw[hl] at e p4;simp only[aaU,abJ] at e p4
   by_cases xM:64<=rs.length
   .rw[if_pos xM] at p4;have Y:(64<=(rs.length:Int))=True:=ah7;rw[c 3 p4.symm];simp only[Ru.cs] at e;simp[n,p,s,j,g];refine aw e ?_;simp[Y,RL]
   .rw[if_neg xM] at p4;have Y:(64<=(rs.length:Int))=False:=ah8;have ju:((rs.length+1)*40<=140737488355328)=True:=ah7;have GJ:(∀f∈RL rs,f.length=4)=True:=eq_true (by intro f t;simp only[RL,aaQ] at t;obtain⟨y,_,rfl⟩:=t;rfl)
    have eK:RL rs++[x.cs]=RL (rs++[x]):=by simp[RL]
    have vX:(RL rs).length=rs.length:=by simp[RL]
    simp only[Ru.cs] at e eK;simp[n,p,s,j,g];refine aw e ?_;simp[Y,ju,GJ,eK,vX,g,a1,a2,i3,-aaa];refine⟨(i+1,o+w.length+1,rs++[x],none),?_,⟨by simp only;omega,by simp;omega,my,p4⟩,?_,?_⟩
    .simp only;omega
    .simp[av]
    .simp[ak,ay.cl,aZ,V.cl,Tk.cl]
  | none =>
   rw[hl] at e p4;simp only[Option.getD_none,Option.isSome_none] at e p4;have M:=zw3 (G:=G) w 32 an;rw[show((abC 32:Nat):Int)=32 from rfl] at M;obtain⟨U,Z⟩:=bb (gY 32 w);have C:=Dh 32 w;have Mo:=zqX 32 w;rw[<-Z] at M C Mo;have hc:=zN U;have U5:0<U.length:=abg.2 C;obtain⟨D,N⟩:=bb (cD U)
   have E:D.length=U.length:=by rw[N];simp
   rw[<-N] at M;obtain⟨z,O⟩:=bb (U[U.length-1])
   have gz:D[U.length-1]?=some [.str z]:=by rw[N];exact Dz (by rw[aaf an,O])
   obtain⟨f,t⟩:=bb (U[0])
   have gf:D[0]?=some [.str f]:=by rw[N];exact Dz (by rw[aaf U5,t])
   have zl:z.length<=20001:=by
    have:∀l:List (List UInt8),∀x∈l,x.length<=Al l:=λl=>by
     induction l with
     | nil=>simp
     | cons v l ih =>
      intro x hx
      rcases aaH.1 hx with rfl|hx
      .simp only[Al];omega
      .have:=ih x hx;simp only[Al];omega
    have:=this U z (by rw[O];exact aba _);omega
   have pA:=zmF (G:=G) z an
   have u1:bO .i64 U.length 1=((U.length-1:Nat):Int):=by rw[nW an an];omega
   obtain⟨d,hd⟩:=bb (oS w);rw[<-hd] at p4
   have CA:∀v,d=some v->U.length=2/\f=[100,101,102,97,117,108,116]/\eQ z=some v:=by
    intro v hv;obtain⟨h1,u⟩:=TB (hd▸hv);rw[<-Z] at u
    have fA:U.length=2:=by rw[<-u];rfl
    refine⟨fA,?_,?_⟩
    .rw[t];simp only[<-u];rfl
    .have:z=iX v:=by rw[O];simp only[<-u];rfl
     rw[this];exact GI h1
   have QK:∀v,U.length=2->f=[100,101,102,97,117,108,116]->eQ z=some v->d=some v:=by
    intro v h1 u h3;rw[hd];refine Z9 (BT h3).1 ?_;rw[<-Z,IT,(BT h3).2]
    obtain⟨a,b,Gv⟩:∃a b,U=[a,b]:=by
     match U,h1 with
     | [a,b],_=>exact⟨a,b,rfl⟩
    have fa:f=a:=by rw[t];simp[Gv]
    have zb:z=b:=by rw[O];simp[Gv]
    rw[Gv,<-fa,<-zb,u]
   simp only[Ru.cs] at e;simp[n,p,s,j,g];refine aw e ?_;simp[g];refine aw M ?_;simp[E,u1,gz];refine aw pA ?_
   by_cases F:U.length=2
   .have H:((U.length:Int) !=2)=false:=by simp;omega
    by_cases P:f=[100,101,102,97,117,108,116]
    .have Q:(f==[100,101,102,97,117,108,116])=true:=by simpa using P
     cases hA:eQ z with
     | some v =>
      rw[QK v F P hA] at p4;simp only at p4;simp[E,H,Q,gf,g,a1,a2,i3,-aaa];refine⟨(i+1,o+w.length+1,rs,some v),?_,⟨by simp only;omega,p2,my,p4⟩,?_,?_⟩
      .simp only;omega
      .simp[av]
      .simp[ak,ay.cl,aZ,V.cl,Tk.cl]
     | none =>
      have I:d=none:=by
       cases h:d with
       | none=>rfl
       | some v=>have:=(CA v h).2.2;rw[hA] at this;cases this
      rw[I] at p4;rw[c 2 p4.symm];simp[E,H,Q,gf]
    .have Q:(f==[100,101,102,97,117,108,116])=false:=by simpa using P
     have I:d=none:=by
      cases h:d with
      | none=>rfl
      | some v=>exact absurd (CA v h).2.1 P
     rw[I] at p4;rw[c 2 p4.symm];simp[E,H,Q,gf]
   .have H:((U.length:Int) !=2)=true:=by simp;omega
    have I:d=none:=by
     cases h:d with
     | none=>rfl
     | some v=>exact absurd (CA v h).1 F
    rw[I] at p4;rw[c 2 p4.symm];simp[E,H]
def pY(p:Po):Nat:=p.rules.length+(p.rules.map λr=>r.conds.length).sum
def zqY:∀(l:List (List UInt8)) (o:Nat) (rs:List Ru) (a:Option Nat),(∀r∈rs,r.cO)->rs.length<=64->(∀v,a=some v->eg v=true) ->
  ((uN o rs a l).1.rules.length<=64/\(∀r∈(uN o rs a l).1.rules,r.cO))/\((uN o rs a l).2.2=0->l≠[]->eg (uN o rs a l).1.cN=true)
 | [],o,rs,a,h,c,e=>by simp[uN,mE]
 | w::r,o,rs,a,h,c,e=>by
  have z:(mE.rules.length<=64/\∀r∈mE.rules,r.cO):=by simp[mE]
  unfold uN;split
  .split
   .split
    .exact⟨z,ir⟩
    .rename_i v;exact⟨⟨c,h⟩,λ_ _=>e v rfl⟩
   .exact⟨z,ir⟩
  .rename_i f;split
   .exact⟨z,ir⟩
   .split
    .rename_i x g;split
     .exact⟨z,ir⟩
     .have:=zqY r (o+w.length+1) (rs++[x]) none (λy b=>by
       rcases aaJ.1 b with b|b
       .exact h y b
       .rw[aa7.1 b];exact(TA g).1) (by simp;omega) ir
      exact⟨this.1,λd _=>this.2 d f⟩
    .split
     .rename_i v i;have:=zqY r (o+w.length+1) rs (some v) h c (λy b=>by cases b;exact(TB i).1);exact⟨this.1,λd _=>this.2 d f⟩
     .exact⟨z,ir⟩
def zo2(S:List UInt8):((eo S).1.rules.length<=64/\∀r∈(eo S).1.rules,r.cO)/\((eo S).2.2=0->eg (eo S).1.cN=true):=by have:=zqY (gY 10 S) 0 [] none ir ir ir;exact⟨this.1,λh=>this.2 h (Dh 10 S)⟩
def QL:∀l:List Nat,(∀x∈l,x<=4)->l.sum<=4*l.length
 | [],_=>by simp
 | a::l,h=>by
  have:=QL l (λx b=>h x (by simp[b]));have:=h a ir;simp only[List.sum_cons,aa1];omega
def zAf[jM G][fq G][dB G][iu G][eD G][jW G][g7 G][q8 G](S:List UInt8)(b:S.length<=20000):FP G 504 [.str S] (.int .i64 (pY (eo S).1:Nat)):=by
 refine bw q8.agW (aab rfl) ?_;have f:=zsh (G:=G) S b;obtain⟨⟨B,g⟩,_⟩:=zo2 S;generalize n:(eo S).1=p at *
 have o:pT (eo S)=.bc [.agg [.vs (RL p.rules) .no,.int .u32 p.cN],.int .i64 ((eo S).2.1:Nat),.int .i64 ((eo S).2.2:Nat)]:=by rw[pT,n];rfl
 rw[o] at f;obtain⟨N,c⟩:∃N:Nat->Nat,∀i,N i=p.rules.length+((p.rules.take i).map λr=>r.conds.length).sum:=⟨_,λ_=>rfl⟩
 have q:N 0=p.rules.length:=by rw[c];simp
 have d:∀i r,p.rules[i]?=some r->N (i+1)=N i+r.conds.length:=λi r h=>by rw[c,c,aap,h];simp;omega
 have s:∀i,N i<=64+4*64:=λi=>by
  rw[c]
  have:=QL ((p.rules.take i).map λr=>r.conds.length) (λx a=>by
   simp only[aaQ] at a;obtain⟨r,t,rfl⟩:=a
   exact(BX (g r (aan t))).2.2.2.2)
  rw[abX,aao] at this;omega
 have e:pY p=N p.rules.length:=by rw[c,aaE];rfl
 rw[e];simp;refine aw f ?_;simp;refine aO p.rules.length (λi=>[(3,.ptr 0 0),(6,.int .i64 (N i:Nat)),(7,.int .i64 i)]) (λ_=>[some (.cells [.vs (RL p.rules) .no,.int .u32 p.cN])]) (λ_=>True) ?_ ?_
 .simp[av,ak,ay.cl,aZ,V.cl,Tk.cl,q]
 intro i hi _
 have j:(RL p.rules).length=p.rules.length:=by simp[RL]
 rcases aaj hi with u|k
 .subst u;simp[j]
 .obtain⟨x,a⟩:∃x,p.rules[i]?=some x:=⟨_,aaf k⟩
  have l:(RL p.rules)[i]?=some x.cs:=by simp[RL,a]
  have v:((i:Int)<(p.rules.length:Int))=True:=ah7
  have w:aC .i64 i 1=(i+1:Nat):=qq
  have y:=d i x a;have C:=s i;have D:=(BX (g x (aah a))).2.2.2.2
  have z:aC .i64 (N i:Int) (x.conds.length:Int)=((N (i+1):Nat):Int):=by rw[y,eB]<;>omega
  have A:(CL x.conds).length=x.conds.length:=by simp[CL]
  have m:=(aae.1 l).2;simp only[Ru.cs] at l m;simp[j,v,m,A,w,z,k,av,ak,ay.cl,aZ,V.cl,Tk.cl,-aaa]
noncomputable def Fw(S:List UInt8)(T:Nat)(x y z:Int):Bool:=decide (2000<S.length\/8<pY (eo S).1\/3000<T\/4<x\/25<y\/3<z)
def zAg[jM G][fq G][dB G][iu G][eD G][jW G][g7 G][q8 G][uf G](S:List UInt8)(tab:List (List V))(x y z:Int) :
  FP G 505 [.str S,.vs tab .no,.agg [.int .i64 x,.int .i64 y,.int .i64 z]] (.bool (Fw S tab.length x y z)):=by
 refine bw uf.agX (aab rfl) ?_
 by_cases f:2000<S.length
 .have b:(2000<(S.length:Int))=True:=ah7
  have:Fw S tab.length x y z=true:=by simp[Fw,f]
  rw[this];simp[b]
 .have b:(2000<(S.length:Int))=False:=ah8;have h:=zAf (G:=G) S an
  have e:Fw S tab.length x y z=(decide (8<pY (eo S).1)||decide (3000<tab.length)||decide (4<x)||decide (25<y)||decide (3<z)):=by rw[abT];simp[Fw,f,or_assoc]
  rw[e];generalize pY (eo S).1=n at *;simp[b];refine aw h ?_
  by_cases c:8<n
  .have a:(8<(n:Int))=True:=ah7;simp[a,c]
  have a:(8<(n:Int))=False:=ah8
  by_cases g:3000<tab.length
  .have d:(3000<(tab.length:Int))=True:=ah7;simp[a,c,g,d]
  have d:(3000<(tab.length:Int))=False:=ah8
  by_cases i:4<x<;>by_cases j:25<y<;>simp[a,c,g,d,i,j]
def zo3:∀{f:List af},jF f=true->∀x∈f,jS x=true
 | [],_,x,h=>by simp at h
 | y::f,a,x,h=>by
  simp only[jF,aai] at a
  rcases aaH.1 h with rfl|h
  .have:=a.1;simp only[cd,aai] at this;exact this.1.1.1
  .exact zo3 a.2 x h
def zFg{S:List UInt8}{n:Nat}{x y z:Int}(h:Fw S n x y z=false):S.length<=2000/\n<=3000/\pY (eo S).1<=8:=by simp only[Fw,decide_eq_false_iff_not] at h;omega
noncomputable def jd(S:List UInt8):Po:=(eo S).1
def qM(b:List Nat):List TR:=(wE b).getD []
noncomputable def rb(S:List UInt8)(b:List Nat)(x y z:Int):(List af×List TR)×Nat×Bool:=sg (kN (jd S)) (qM b) x y z
def Hp(q:(List af×List TR)×Nat×Bool):V:=.agg [FL q.1.1,.vs (aq .u8 (ml q.1.1)) .no,.vs (aq .u8 (AH q.1.2)) .no,.int .i64 (q.2.1:Nat),.bool q.2.2]
def MC:V:=.agg [.vs [] .no,.vs [] .no,.vs [] .no,.int .i64 0,.bool false]
noncomputable def DF(S:List UInt8)(b:List Nat)(x y z:Int):V :=
 if(eo S).2.2=0 then .bc [Hp (rb S b x y z),.int .i64 0,.int .i64 0] else .bc [MC,.int .i64 ((eo S).2.1:Nat),.int .i64 ((eo S).2.2:Nat)]
def Kc{S:List UInt8}(h:(eo S).2.2=0):yU (jd S)=true/\(jd S).wf:=by
 obtain⟨⟨d,e⟩,a⟩:=zo2 S;have a:=a h;refine⟨?_,?_,λr b=>?_,Lu a⟩
 .simp only[yU,aai,decide_eq_true_eq,aav];exact⟨⟨λr b=>(e r b).1,a⟩,d⟩
 .exact aau d ah9
 .obtain⟨f,g,i,j,k⟩:=BX (e r b);exact⟨aau k ah9,λc l=>(f c l).2,g,i,Lu j⟩
def zth{b:List Nat}(c:∀x∈b,x<256):(∀r∈qM b,r.ok)/\(qM b).length<=64/\eh (qM b)=true:=by
 unfold qM
 cases h:wE b with
 | none=>exact⟨ir,ir,rfl⟩
 | some t =>
  obtain⟨a,d⟩:=zHg c h;exact⟨d,(Qg a).2,a⟩
def zsi{t:List TR}(h:eh t=true):jU t=t:=by rw[jU,if_pos h]
structure Hl (f:List af) (q:(List af×List TR)×Nat×Bool):Prop where
 sound:du q.1.1=true
 k:∀y∈q.1.1,y.k<4294967296
 len:q.1.1.length<=f.length
 tk:mc q.1.2
 dC:eh q.1.2=true
def zuI{tries most:Int}:∀(n:Nat) {f:List af} {t:List TR},du f=true->(∀y∈f,y.k<4294967296)->mc t->eh t=true->Hl f (vu tries most n f t)
 | 0,f,t,b,c,d,e=>⟨b,c,aaI _,d,e⟩
 | n+1,f,t,b,c,d,e=>by
  unfold vu
  cases g:yh f t tries most with
  | none=>exact⟨b,c,aaI _,d,e⟩
  | some q =>
   have k:=zwW b c d g;have a:=zuI (tries:=tries) (most:=most) n k.sound k.k k.tk (k.dC e);exact⟨a.sound,a.k,aau a.len (Nat.le_of_lt k.len),a.tk,a.dC⟩
def QR{p:Po}(c:p.wf)(d:yU p=true):(kN p).length<=4096/\du (kN p)=true/\(∀y∈kN p,y.k<4294967296):=by obtain⟨e,f,h⟩:=QV c d;obtain⟨i,a⟩:=zpY e;have b:=Zw f h;have g:=i.len;have j:(bx [] 6 p.cN).length=1:=rfl;exact⟨an,(a b).1,(a b).2⟩
def Vx{S:List UInt8}{b:List Nat}(x y z:Int)(g:∀w∈b,w<256)(h:(eo S).2.2=0):Hl (prune (kN (jd S))) (rb S b x y z)/\(rb S b x y z).1.1.length<=(kN (jd S)).length:=by
 obtain⟨a,i⟩:=Kc h;obtain⟨m,j,k⟩:=QR i a;obtain⟨c,n,e⟩:=zth g;have f:=Vb j;have d:=zuI (tries:=q7 y 0 1000) (most:=q7 z 0 32) (q7 x 0 1000).toNat (t:=qM b) f.1 (ztf k) (λr a=>⟨(c r a).2.2.1,(c r a).2.2.2.1,(c r a).2.2.2.2⟩) e
 have l:rb S b x y z=vu (q7 y 0 1000) (q7 z 0 32) (q7 x 0 1000).toNat (prune (kN (jd S))) (qM b):=by rw[rb,sg,zsi e]
 rw[<-l] at d;exact⟨d,aau d.len f.2.1⟩
noncomputable def QN(p:Po)(a:Int)(Q:(List af×List TR)×Nat×Bool):Nat->Jb
 | 0=>wF
 | 1=>{ wF with p:=p,at_:=a,e:=0,k1:=.no }
 | 2=>{ wF with p:=p,at_:=a,e:=0,k1:=.no,f:=IL (kN p),k2:=.no }
 | 3=>{ wF with p:=p,at_:=a,e:=0,k1:=.no,f:=IL (kN p),k2:=.no,F:=IL Q.1.1,T:=TL Q.1.2,n:=(Q.2.1:Nat),d:=Q.2.2,k3:=.no,k4:=.no }
 | 4=>{ wF with p:=p,at_:=a,e:=0,k1:=.no,f:=IL (kN p),k2:=.no,F:=IL Q.1.1,T:=TL Q.1.2,n:=(Q.2.1:Nat),d:=Q.2.2,k3:=.no,k4:=.no,oc:=aq .u8 (ml Q.1.1),k6:=.no }
 | _=>{ wF with p:=p,at_:=a,e:=0,k1:=.no,f:=IL (kN p),k2:=.no,F:=IL Q.1.1,T:=TL Q.1.2,n:=(Q.2.1:Nat),d:=Q.2.2,k3:=.no,k4:=.no,oc:=aq .u8 (ml Q.1.1),k6:=.no,ot:=aq .u8 (AH Q.1.2),k7:=.no }
def zsj[dT G][dy G][aE G][aD G][bQ G][dx G][cW G][aQ G][cY G][cZ G][bY G][cu G][bS G][au G][H:dU G][cB G][aN G][de G][bZ G][cQ G][eT G][ga G][fI G][fJ G][iQ G][dh G][fK G][eJ G][ej G][cS G][gP G][fj G]
  [fB G][bW G][kE G][bI G][eO G][dV G][di G][eC G][fk G][cT G][c_ G][gg G][dQ G][bD G][jV G]
  (S:List UInt8) (b:List Nat) (x y z:Int) (u:S.length<=20000) (h:∀w∈b,w<256) (v:b.length<=1000000):FP G 483 [.str S,.vs (aq .u8 b) .no,.agg (iv x y z)] (DF S b x y z):=by
 have l:=zwe (G:=G) S u;obtain⟨te,hd,_⟩:=zz9 (G:=G) b h v;simp only[TF] at hd;unfold DF
 by_cases d:(eo S).2.2=0
 rotate_left
 .rw[if_neg d];exact zxJ (by simp;omega) hd l
 rw[if_pos d];obtain⟨a,p⟩:=Kc d;obtain⟨I,A,B⟩:=QR p a;obtain⟨g,K,C⟩:=zth h;have m:=zEg (G:=G) (jd S) p;rw[a] at m;have D:U8 (qM b):=⟨an,g⟩;have n:=zp8 (G:=G) (kN (jd S)) (qM b) x y z A B D (by rw[zsi C];exact λr a=>⟨(g r a).2.2.1,(g r a).2.2.2.1,(g r a).2.2.2.2⟩);obtain⟨c,E⟩:=Vx x y z h d;obtain⟨Q,q⟩:=bb (rb S b x y z);rw[<-q] at c E |-;rw[show sg (kN (jd S)) (qM b) x y z=Q from q.symm] at n
 have s:=zoX (G:=G) Q.1.1 an c.k (λw F=>by
  have:=c.sound;simp only[du,aai] at this
  exact zo3 this.1.2 w F)
 have t:=zAa (G:=G) Q.1.2 c.dC (zwZ c.dC c.tk).2;rw[pT,d] at l;simp only[FL,TF,o6,if_true] at m n s t
 have o:=zxK (G:=G) (S:=S) (tab:=aq .u8 b) (x:=x) (y:=y) (z:=z) (tb:=TL (qM b)) (te:=te) (J:=QN (jd S) ((eo S).2.1:Nat) Q) rfl hd (zw0 (j:=wF) l) (zFa (f:=IL (kN (jd S))) (e:=0) m) (zFb n) (zFc s) (zFd t) (by
  intro i hi
  have:i=0\/i=1\/i=2\/i=3\/i=4\/i=5:=an
  rcases this with rfl|rfl|rfl|rfl|rfl|rfl<;>simp[QN,Jb.cs,wF,aZ,V.cl,Tk.cl]) (by
  intro i L M
  have:i=1\/i=2\/i=3\/i=4\/i=5:=an
  rcases this with rfl|rfl|rfl|rfl|rfl<;>rfl)
 exact o
def zHn{p:Po}(c:p.wf)(e:yU p=true):(kN p).length<=4096/\du (kN p)=true/\(∀y∈kN p,y.k<4294967296)/\(∀d:Da,d.ok->(run d (kN p) qn).1=EW d p)/\(kN p).length<=1+Ew p:=by obtain⟨f,h,i⟩:=QV c e;obtain⟨j,a,l⟩:=zzK f;have b:=Zw h i;have g:=j.len;have m:(bx [] 6 p.cN).length=1:=rfl;refine⟨an,(a b).1,(a b).2,λd hd=>?_,an⟩;have:=l d hd qn Uk;rw[zS] at this;rw[this];exact zrG d p.cN p.rules
def zHo{t:List TR}(h:∀r∈t,r.ok):mc t:=λr a=>⟨(h r a).2.2.1,(h r a).2.2.2.1,(h r a).2.2.2.2⟩
def zCQ{t:List TR}(h:mc t):mc (jU t):=by
 unfold jU;split
 .exact h
 .intro r a;cases a
def zIO{f:List af}{t:List TR}(a tries most:Int)(b:du f=true)(c:∀x∈f,x.k<4294967296)(d:mc t):Hi (prune f) (jU t) (sg f t a tries most) :=
 zuB _ (Vb b).1 (ztf c) (zCQ d)
def Vy{S:List UInt8}{b:List Nat}(x y z:Int)(g:∀w∈b,w<256)(h:(eo S).2.2=0)(d:Da)(hd:d.ok) :
  (run d (rb S b x y z).1.1 qn).1=EW d (jd S)/\((∀w∈kN (jd S),w.op≠60)->(run d (rb S b x y z).1.1 qn).2<=(run d (kN (jd S)) qn).2):=by
 obtain⟨i,a⟩:=Kc h;obtain⟨q,c,j,k,_⟩:=zHn a i;obtain⟨l,r,s⟩:=zth g;have m:=zIO (t:=qM b) x y z c j (zHo l);obtain⟨p1,p2,p3,p4⟩:=Vb c;obtain⟨e,f⟩:=m.run d hd;rw[p4] at e f;refine⟨by rw[rb,e];exact k d hd,λn=>f λw a=>?_⟩;obtain⟨v,o,p,_⟩:=Vc a;rw[p];exact n v o
def zHp{S:List UInt8}:(jd S).rules.length<=maxLen/\∀r∈(jd S).rules,r.conds.length<=maxLen/\∀x∈r.conds,x.ok:=by obtain⟨⟨a,b⟩,_⟩:=zo2 S;refine⟨aau a ah9,λr d=>?_⟩;obtain⟨e,h,i,j,f⟩:=BX (b r d);exact⟨aau f ah9,λc g=>(e c g).2⟩
def zAh(S:List UInt8):pT (eo S)=.bc [.agg [.vs (RL (jd S).rules) .no,.int .u32 ((jd S).cN:Int)],.int .i64 ((eo S).2.1:Nat),.int .i64 ((eo S).2.2:Nat)]:=rfl
def nn:List af:=[⟨132,0,0,0⟩,⟨132,0,0,0⟩]
def RA:af:=⟨22,0,0,0⟩
def nK:List af:=nn++[RA]
def zCR:du nK=true:=by decide +kernel
def zIP:∀x∈nK,x.k<4294967296:=by decide
def adW:a_ nn=true:=by decide +kernel
def zFh:qK nK:=by
 intro i a hi
 have:i=1\/i=2:=by simp[nK,nn] at hi;omega
 rcases this with rfl|rfl
 .exact⟨0,⟨132,0,0,0⟩,0,rfl,ah9,rfl⟩
 .exact⟨1,⟨132,0,0,0⟩,0,rfl,ah9,rfl⟩
def zCS:rows nK 4 3=[(0,2)]:=by kernel_rfl
def zHq:rows [RA] 4 1=[]:=by kernel_rfl
def zCT:J2 nK 0 2=1:=by kernel_rfl
def zFi:eZ nK 0 2 []=[RA]:=by kernel_rfl
def zCU:wy (aK [] nn).p (aK (aK [] nn).L []).p (aK [] nn).st (aK (aK [] nn).L []).st 1=true:=by kernel_rfl
def zCV:ig nn 1 9=some []:=by
 refine zIF (k:=0) (zFG ah9) ah9 ?_ λj a=>by omega
 have:=zEQ (v:=nn) (w:=[]) (live:=1) adW (by decide +kernel);rw[zCU] at this;simpa using this
def J7:TR:=⟨nn,[],1⟩
def zAi:q6 [] J7=([J7],0):=by kernel_rfl
def zFj:sg nK [] 9 9 4=(([RA],[J7]),1,true):=by
 have a:yh nK [] 9 4=some ([RA],[J7]):=by
  rw[yh,show nK.length=3 from rfl,zCS];have b:xb nK 0 2=nn:=rfl
  have c:zg nn [] 1 9=some []:=by rw[zg,show Cr [] nn 1=none from rfl];exact zCV
  have d:tj nK [] 9 (0,2)=some ([RA],[J7]):=by rw[tj,b,zCT,c,Option.map_some,zFi];rw[show(⟨nn,[],1⟩:TR)=J7 from rfl,zAi]
  rw[List.findSome?_cons,d]
 have e:yh [RA] [J7] 9 4=none:=by rw[yh,show [RA].length=1 from rfl,zHq];rfl
 rw[sg,zAd zCR zFh,show jU []=[] from rfl,show q7 9 0 1000=9 from rfl,show q7 4 0 32=4 from rfl,show Int.toNat 9=8+1 from rfl,vu,a];simp only[];rw[vu,e]
def tq:List UInt8:=[111,110,32,120,54,52,32,114,101,97,100,32,97,108,108,111,119,32,105,102,32,97,48,32,48,120,102,102,102,102,102,102,102,102,32,101,113,32,48,120,49,10,100,101,102,97,117,108,116,32,107,105,108,108,10]
def QO:Po:=⟨[⟨3221225534,0,[⟨0,0,4294967295,1⟩],2147418112⟩],0⟩
def J8(n:Nat):Da:=⟨0,3221225534,0,[n,0,0,0,0,0]⟩
def zqZ:eo tq=(QO,0,0):=by
 have a:tP [111,110,32,120,54,52,32,114,101,97,100,32,97,108,108,111,119,32,105,102,32,97,48,32,48,120,102,102,102,102,102,102,102,102,32,101,113,32,48,120,49]=some ⟨3221225534,0,[⟨0,0,4294967295,1⟩],2147418112⟩ :=
  Z8 ⟨ah9,by simp[Cd.ok],ah9,ah9,ah9⟩ (by decide +kernel)
 have b:oS [100,101,102,97,117,108,116,32,107,105,108,108]=some 0:=Z9 ah9 (by decide +kernel)
 have c:tP [100,101,102,97,117,108,116,32,107,105,108,108]=none:=by
  cases h:tP [100,101,102,97,117,108,116,32,107,105,108,108] with
  | none=>rfl
  | some y=>have:=Z_ h;exact absurd this (by decide +kernel)
 have d:gY 10 tq=[[111,110,32,120,54,52,32,114,101,97,100,32,97,108,108,111,119,32,105,102,32,97,48,32,48,120,102,102,102,102,102,102,102,102,32,101,113,32,48,120,49],[100,101,102,97,117,108,116,32,107,105,108,108],[]]:=by decide +kernel
 rw[eo,d];simp[uN,a,b,c,QO]
def zFk[dT G][dy G][aE G][aD G][bQ G][dx G][cW G][aQ G][cY G][cZ G][bY G][cu G][bS G][au G][p:dU G][cB G][aN G][de G][bZ G][cQ G][eT G][ga G][fI G][fJ G][iQ G][dh G][fK G][eJ G][ej G][cS G][gP G][fj G]
  [fB G][bW G][kE G][bI G][eO G][dV G][di G][eC G][fk G][cT G][c_ G][gg G][dQ G][bD G][jV G][lI G][uq G][uk G]
  (p1:FP G 148 [.str [110,101,103,10,110,101,103,10,114,101,116,97,10]] (.bc [FL nK,.int .i64 0,.int .i64 0])):FP G 484 [] (.bool true):=by
 refine bw uk.agD (aab rfl) ?_;have e:=zp8 (G:=G) nK [] 9 9 4 zCR zIP ⟨ah9,λr f=>by cases f⟩ (λr f=>by cases f);rw[zFj] at e;have c:=zsj (G:=G) tq [] 1 9 2 ah9 ir ir
 have a:(eo tq).2.2=0:=by rw[zqZ]
 unfold DF at c;rw[if_pos a] at c;obtain⟨d,q⟩:=Vx (S:=tq) (b:=[]) 1 9 2 ir a;obtain⟨s,_⟩:=QR (Kc a).2 (Kc a).1
 have i:(J8 1).ok:=by simp[J8,Da.ok]
 have j:(J8 2).ok:=by simp[J8,Da.ok]
 have l:=(Vy (S:=tq) (b:=[]) 1 9 2 ir a _ i).1;have m:=(Vy (S:=tq) (b:=[]) 1 9 2 ir a _ j).1
 have n:EW (J8 1) (jd tq)=2147418112:=by rw[jd,zqZ];decide +kernel
 have o:EW (J8 2) (jd tq)=0:=by rw[jd,zqZ];decide +kernel
 rw[n] at l;rw[o] at m;generalize rb tq [] 1 9 2=Q at *;have g:=zB0 (G:=G) Q.1.1 _ (by simp only[maxLen];omega) d.k d.sound i;have h:=zB0 (G:=G) Q.1.1 _ (by simp only[maxLen];omega) d.k d.sound j;rw[l] at g;rw[m] at h;simp only[FL,TF,o6,Hp,iv,show TL []=[] from rfl,show aq .u8 []=[] from rfl] at p1 e c;simp only[FL,DV,Da.cs,J8,ax,abf,abI] at g h;simp;refine aw c ?_;simp;refine aw g ?_
 simp;refine aw h ?_;simp;refine aw p1 ?_;simp;refine aw e ?_;simp[IL]
end Go.Ev
