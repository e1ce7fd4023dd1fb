/- What arithmetic in a book comes to: plain laws. -/
import Derived.Test.YtbkhoemaobbplaaGreatDoorParMW
import Derived.Test.YtbkhoemaobbplaaGreatDoorEvXW
import Derived.Test.YtbkhoemaobbplaaGreatDoorEvLW
import Derived.KernelRfl
set_option linter.defProp false
set_option linter.unusedSimpArgs false
set_option linter.unusedVariables false
set_option maxHeartbeats 8000000
set_option maxRecDepth 10000
open List renaming getElem?_eq_some_iff->aaa,getElem?_eq_getElem->aah,getElem?_append_left->aai,take_of_length_le->aaj,getD_eq_getElem?_getD->aak,drop_eq_nil_of_le->aan,length_append->aao,length_cons->aap,append_assoc->aaq,length_take->aav,length_set->aaw,mem_of_getElem?->aaA,getElem_mem->aaD,mem_append->aaE,mem_cons->aaG,getElem?_set_ne->aaH,range->aaI,drop_eq_getElem_cons->aaJ,mem_range->aaK,set_append_left->aaQ,mem_singleton->aaY,not_mem_nil->aaZ,getD->aa2,mem_of_mem_drop->aa6,getElem?_cons_succ->aba,getElem?_drop->abc,take_length->abd,all_eq_true->abe,take_add_one->abf,getElem?_set->abg,getD_cons_succ->abh,mem_of_mem_take->abi,reduceReplicate->abj,getElem?_cons_zero->abk,mem_map->abn,getElem?_append_right->abp,replicate->abt,range_succ->abv,append_nil->abw,getElem?_eq_none->aby,flatMap_cons->abz,getElem?_map->abA,drop_drop->abD,length_drop->abG,drop_succ_cons->abH,map_cons->abI,getElem?_take->abJ,mem_filterMap->abM,getElem?_set_self->abQ,drop_append_of_le_length->abR,set_append_right->abV,any_eq_true->abX,map_congr_left->ab0,drop_left'->ab1,length_map->ab3,mem_replicate->ab4,ext_getElem?->ab6,find?_append->ab7,set_comm->ab8,cons_append->ab9,take_succ_eq_append_getElem->aca,take_left'->acd,nil_append->ace,map_nil->acf,map_set->acg,length_nil->ach,eq_nil_of_length_eq_zero->acm,getElem?_range->acn,drop_zero->acq,find?_eq_none->acs,drop_one->acw,mem_or_eq_of_mem_set->acx,mem_of_find?_eq_some->acy,getElem?_replicate->acA,take_append_drop->acF,countP_le_length->acG,take_succ_cons->acQ,flatMap_append->acR,set_cons_succ->acU,set_cons_zero->acV,map_map->acY,countP_append->ac0,countP_cons->ac4,mem_flatMap->ac5,find?_some->ac6,foldl_cons->ac7,map_append->adb,take_zero->ade,map_take->adf,set_set->adh
open Int renaming natCast_add->aab,eq_ofNat_of_zero_le->aa1,natCast_mul->aa7,toNat_natCast->abx,natCast_ediv->abF,natCast_emod->abW,natCast_pow->ac8
open Bool renaming and_eq_true->aae,false_eq_true->aau,true_and->abb,or_eq_false_iff->abB,false_and->ab5,not_eq_true->ab_,or_eq_true->acj,eq_iff_iff->acB,and_eq_false_iff->acE,and_true->acI,not_eq_true'->ac1
open Nat renaming le_of_ble_eq_true->aaf,le_refl->aaF,lt_succ_iff_lt_or_eq->aa_,zero_add->abm,add_comm->abT,add_zero->abU,mod_lt->ack,testBit_two_pow_sub_one->acr,succ_mul->acz,min_eq_left->acD,mul_comm->acS,le_trans->acT,lt_of_le_of_lt->acX,mod_eq_of_lt->ac2,sub_self->adg,or_comm->adj,zero_le->adl,pow_mul->adq
open Function renaming comp_def->aas,comp->acP
open Option renaming map->aaU,some->abC,map_some->ab2,toList_some->acZ,getD_some->ac3
open UInt8 renaming ofNat->abu
namespace Go.Ev
open Go Go.RowKit
variable {L L':List Nd} {v:List Nat}
def zue{c:Nat}(a:c<4294967296)(r:Int->Nat):val [] [c] r=c:=by
 rw[val,<-Sr (w:=c) a]
 exact Sq λi hi=>by simp[dm,idx,Sr (w:=c) a]
def zyA(i:Int)(r:Int->Nat)(a:r i<4294967296):val [i] [0,ones] r=r i:=by
 rw[val,<-Sr (w:=r i) a];refine Sq λj b=>?_
 have e:ones.testBit j=true:=by rw[ones,show 4294967295=2^32-1 from rfl,acr];simpa using b
 cases h:(r i).testBit j<;>simp[dm,idx,h,e]
def zEp{a:Nat}(b:a<4294967296):a ^^^ ones=4294967295-a:=by
 refine Nat.eq_of_testBit_eq λj=>?_;rw[Nat.testBit_xor,ones,show 4294967295=2^32-1 from rfl,acr,show 2^32-1-a=2^32-(a+1) by omega,Nat.testBit_two_pow_sub_succ b]
 by_cases c:j<32
 .simp[c]
 .simp only[c,decide_false,ab5,Bool.xor_false];exact Nat.testBit_lt_two_pow (Nat.lt_of_lt_of_le b (Nat.pow_le_pow_right (n:=2) (i:=32) ah9 an))
def zGS(i:Int)(r:Int->Nat)(a:r i<4294967296):val [i] [ones,0] r=4294967295-r i:=by have h:=zBQ (kind:=164) (fv:=[i]) (gv:=[]) (vs:=[i]) (ft:=[0,ones]) (gt:=[ones]) (tab:=[ones,0]) (.inr (.inr rfl)) (λp=>by cases h:p i<;>simp[dm,idx,h,cC,ones]) r;rw[zyA i r a,zue ah9] at h;simp only[cC] at h;rw[h];simp;exact zEp a
def JC{f:List Nat}{c:Nat}(a:f.length=35)(h:pB f=some c):f=c::aR 34:=by
 obtain⟨d,t,rfl,b⟩:=LR a;rw[pB] at h;split at h
 .rename_i e;cases h;rw[<-e];rfl
 .cases h
def zyB{f:List Nat}{i:Nat}(h:nN f=some i):f=cJ i:=by have:=ac6 h;simpa using this
def LU(i:Nat):dq v L i=(dk v L)[i]?.join:=by
 rw[dq]
 by_cases h:i<L.length
 .have:cE L i=true:=by simp[cE];exact h
  rw[if_pos this];rfl
 .have:¬cE L i=true:=by simp[cE];omega
  rw[if_neg this,aby (by rw[wY];omega)];rfl
def zwp{a:Nd}{i:Nat}(b:a.cO i)(e:i<=L.length):gC v (dk v (L.take i)) a=gC v (dk v L) a:=by
 rw[gC,gC];split
 .rfl
 .split
  .rfl
  .rcases b.2.2 with h|h|⟨_,c,d,_⟩
   .contradiction
   .contradiction
   .rw[<-LP,abJ,if_pos c,abJ,if_pos d]
def Uc{i:Nat}{a:Nd}(h:Inv L)(b:L[i]?=some a):dq v L i=gC v (dk v L) a:=by rw[LU,zyt b,zwp (h.cO i a b) (by have:=(aaa.1 b).1;omega)];rfl
def LV{k i:Nat}(h:Ext L L' k)(hi:i<L.length):dq v L' i=dq v L i:=by rw[LU,LU,zyr (zwk h.pre) (lf (by rw[wY];exact hi)),lf (by rw[wY];exact hi)]
def zqL{a:Nd}{p:List Int×List Nat}{k:List (Option Nat)}(o:a.ok)(q:a.wf)(b:gK a=some p)(g:v.length=34)(l:∀x∈v,x<4294967296):gC v k a=some (val p.1 p.2 (qg v)):=by
 by_cases m:a.kind=1
 .rw[gC,if_neg an,if_pos m,b];rfl
 .have j:a.kind=0:=by
   by_cases j:a.kind=0
   .exact j
   .rw[gK,if_neg m,if_neg j] at b;cases b
  have n:∀(i:Nat) (h:i<34),qg v (i:Int)=v[i]'(by omega):=λi h=>by
   rw[qg,abx,aak,lf an];rfl
  have r:∀i:Nat,i<34->qg v (i:Int)<4294967296:=λi h=>by rw[n i h];exact l _ (aaD _)
  rw[gC,if_pos j];rw[gK,if_neg m,if_pos j] at b
  congr 1
  split at b
  .rename_i c s;cases b;have t:=y0 s q.1;rw[JC o.1 s,Du t g,zue t]
  .split at b
   .rename_i i hi;cases b;have d:=TZ hi;rw[zyB hi,zoI d g l,zyA _ _ (r i d),n i d]
   .split at b
    .rename_i i hi;cases b;have d:=TZ hi
     have e:=congrArg (j_ · v) (zyB hi)
     rw[zud ir o.1 q.1 g,zoI d g l,Du ah9 g] at e;have u:=zwl a.f v;rw[zGS _ _ (r i d),n i d,<-e];simp only[ones];omega
    .cases b
def wm(v:List Nat)(p:Int×List Nd)(o:Option Nat):Prop:=∃i:Nat,p.1=i/\i<p.2.length/\dq v p.2 i=o
def zyC{a:Nd}(h:Inv L)(b:a.cO L.length):wm v (bj L a) (gC v (dk v L) a):=by
 obtain⟨e,i,d,c⟩:=wX h b;refine⟨i,d,(aaa.1 c).1,?_⟩;rw[Uc e.inv c]
 have:L=(bj L a).2.take L.length:=by obtain⟨t,f⟩:=e.pre;rw[<-f,acd rfl]
 conv=>rhs;rw[this]
 rw[zwp b e.pre.length_le]
def Ud{f:List Nat}(h:Inv L)(a:f.length=35)(b:∀c∈f,c<4294967296):wm v (bj L (fe f)) (some (j_ f v)):=zyC h (z_ a b _)
def zEq{fv:List Int}{ft:List Nat}(h:Inv L)(f:Right fv ft)(g:∀c∈ft,c<4294967296)(j:v.length=34)(k:∀x∈v,x<4294967296):wm v (tT L fv ft) (some (val fv ft (qg v))):=by obtain⟨e,i,a,l,b,m⟩:=zwj h f g;refine⟨i,l,(aaa.1 b).1,?_⟩;have d:=e.inv.cO i a b;rw[Uc e.inv b,zqL d.1 d.2.1 m j k]
def Ue{kind:Int}{a c:Nat}(h:(cC kind a c).2=true):gL kind (some a) (some c)=some (cC kind a c).1:=by rw[gL];simp only[h,if_true]
def zuN{k:Nat}:(cC 100 1 k).1=2^(k%32)%4294967296:=by simp[cC]
def zEr{kind:Int}{a c:Nd}(h:Inv L)(j:a.ok)(l:c.ok)(B:a.wf)(s:c.wf)(i:v.length=34)(b:(ko L kind a c).2.1=true) :
  a.kind=0/\c.kind=0/\wm v ((ko L kind a c).1,(ko L kind a c).2.2) (gL kind (some (j_ a.f v)) (some (j_ c.f v))):=by
 rw[ko] at b |-;split at b
 case isFalse=>simp[lu] at b
 rename_i w;rw[if_pos w];refine⟨w.1,w.2,?_⟩
 have conv:∀(f:List Nat) (n:Nat),f.length=35->(∀c∈f,c<4294967296)->j_ f v=n->(cC kind (j_ a.f v) (j_ c.f v)).2=true->(cC kind (j_ a.f v) (j_ c.f v)).1=n ->
   wm v ((mW (bj L (fe f))).1,(mW (bj L (fe f))).2.2) (gL kind (some (j_ a.f v)) (some (j_ c.f v))):=λf n D E e F G=>by
  rw[Ue F,G,<-e];exact Ud h D E
 by_cases x:kind=4
 .simp only[x,if_true] at b |-;subst x;exact conv _ _ (zwh j.1 l.1) (zys _ _) (zBT j.1 l.1 i) (by simp[cC]) (by simp[cC])
 by_cases y:kind=20
 .simp only[y,if_true] at b |-;subst y;exact conv _ _ (zqJ j.1 l.1) (zsU _ _) (zud j.1 l.1 s.1 i) (by simp[cC]) (by simp[cC])
 simp only[x,y,if_false] at b |-
 have q:∀k,pB c.f=some k->kind=36->wm v ((mW (bj L (fe (eG a.f k)))).1,(mW (bj L (fe (eG a.f k)))).2.2) (gL kind (some (j_ a.f v)) (some (j_ c.f v))):=λk d g=>by
  have p:=y0 d s.1
  have z:j_ c.f v=k:=by rw[JC l.1 d,Du p i]
  subst g;exact conv _ _ (GV _ j.1) (GU _ _) (zoG k j.1 i) (by simp[cC]) (by rw[z];simp[cC])
 have r:∀k,pB c.f=some k->kind=100->wm v ((mW (bj L (fe (eG a.f (cC 100 1 k).1)))).1,(mW (bj L (fe (eG a.f (cC 100 1 k).1)))).2.2) (gL kind (some (j_ a.f v)) (some (j_ c.f v))):=λk d m=>by
  have p:=y0 d s.1
  have z:j_ c.f v=k:=by rw[JC l.1 d,Du p i]
  subst m;refine conv _ _ (GV _ j.1) (GU _ _) (zoG _ j.1 i) (by simp[cC]) ?_;rw[z,zuN];simp[cC,Nat.mul_mod]
 split at b
 .rename_i u k o d
  try simp only[o,d]
  split at b
  .rename_i g;rw[if_pos g];exact q k d g
  .rename_i g;rw[if_neg g];split at b
   .rename_i m;rw[if_pos m];exact r k d m
   .rename_i m;rw[if_neg m];simp only at b;have t:=y0 o B.1;have C:=y0 d s.1
    have A:j_ a.f v=u:=by rw[JC j.1 o,Du t i]
    have H:j_ c.f v=k:=by rw[JC l.1 d,Du C i]
    have p:=Sx kind t C;rw[A,H,Ue b];have:=Ud (v:=v) h (f:=(cC kind u k).1::aR 34) ir (Dq p);rwa[Du p i] at this
 .rename_i k o d
  try simp only[o,d]
  split at b
  .rename_i g;rw[if_pos g];exact q k d g
  .rename_i g;rw[if_neg g];split at b
   .rename_i m;rw[if_pos m];exact r k d m
   .simp[lu] at b
 .rename_i u o d
  try simp only[o,d]
  split at b
  .rename_i g;rw[if_pos g];have t:=y0 o B.1
   have A:j_ a.f v=u:=by rw[JC j.1 o,Du t i]
   subst g;refine conv _ _ (GV _ l.1) (GU _ _) (zoG u l.1 i) (by simp[cC]) ?_;rw[A];simp[cC,acS]
  .simp[lu] at b
 .simp[lu] at b
def zEs{kind:Int}{a c:Nd}(h:Inv L)(n:a.wf)(o:c.wf)(i:v.length=34)(j:∀x∈v,x<4294967296)(d:(ly L kind a c).2.1=true) :
  ∃p q,gK a=some p/\gK c=some q/\wm v ((ly L kind a c).1,(ly L kind a c).2.2) (gL kind (some (val p.1 p.2 (qg v))) (some (val q.1 q.2 (qg v)))):=by
 cases b:gK a with
 | none=>simp[ly,b,lu] at d
 | some p =>
  cases e:gK c with
  | none=>simp[ly,b,e,lu] at d
  | some q =>
   cases f:z9 kind p q with
   | none=>simp[ly,b,e,f,lu] at d
   | some r =>
    refine⟨p,q,rfl,rfl,?_⟩;simp only[ly,b,e,f,mW];obtain⟨g,k,l,m⟩:=T3 f
    have hd:∀x y,(cC kind x y).2=true:=λx y=>by rcases g.1 with rfl|rfl|rfl<;>simp[cC]
    rw[Ue (hd _ _),<-zBQ g.1 m];exact zEq h k l i j
def zEt{a:Nat}(b:a<4294967296):a &&& 4294967295=a:=by rw[show 4294967295=2^32-1 from rfl,Nat.and_two_pow_sub_one_eq_mod];exact ac2 b
def zuf{kind:Int}{c:Nd}{x y:Int}{b g:Option Nat}(m:∀w,b=some w->w<4294967296)(q:c.ok)(r:c.wf)(s:v.length=34)(t:c.kind=0->g=some (j_ c.f v))(u:x=y->b=g)
  (a:(kQ kind (qI c) x y).2=true):(kQ kind (qI c) x y).1=x/\b=gL kind b g:=by
 have d:∀k,qI c=some k->g=some k:=λk d=>by
  rw[qI] at d;split at d
  .rename_i z;rw[t z,JC q.1 d,Du (y0 d r.1) s]
  .cases d
 have zero:qI c=some 0->(∀w,w<4294967296->cC kind w 0=(w,true))->b=gL kind b g:=λn hd=>by
  rw[d 0 n]
  cases b with
  | none=>rfl
  | some w=>simp only[gL,hd w (m w rfl),if_true]
 have e:x=y->(∀w,w<4294967296->cC kind w w=(w,true))->b=gL kind b g:=λn hd=>by
  rw[<-u n]
  cases b with
  | none=>rfl
  | some w=>simp only[gL,hd w (m w rfl),if_true]
 rw[kQ] at a |-;split at a
 .rename_i o;rw[if_pos o];refine⟨rfl,zero (by simpa using a) λw i=>?_⟩
  rcases o with rfl|rfl|rfl|rfl<;>simp[cC]<;>omega
 .rename_i A;rw[if_neg A];split at a
  .rename_i j;rw[if_pos j];subst j;refine⟨rfl,?_⟩;simp at a
   rcases a with h|h
   .exact zero h λw i=>by simp[cC]
   .exact e h λw i=>by simp[cC]
  .rename_i j;rw[if_neg j];split at a
   .rename_i l;rw[if_pos l];subst l;exact⟨rfl,zero (by simpa using a) λw i=>by simp[cC]⟩
   .rename_i l;rw[if_neg l];split at a
    .rename_i p;rw[if_pos p];subst p;refine⟨rfl,?_⟩;simp at a
     rcases a with h|h
     .rw[d _ h]
      cases b with
      | none=>rfl
      | some w=>simp[gL,cC,ones,zEt (m w rfl)]
     .exact e h λw i=>by simp[cC]
    .simp at a
def zEu{kind:Int}(h:x8 kind=true)(a b:Nat):cC kind a b=cC kind b a:=by simp[x8] at h;obtain⟨c,d,e,f⟩:=h;simp only[cC,c,d,e,f,if_false,abT a b,acS a b,adj a b,Nat.and_comm a b,Nat.xor_comm a b]
def zug{kind:Int}(h:x8 kind=true)(o o':Option Nat):gL kind o o'=gL kind o' o:=by
 cases o<;>cases o'<;>simp[gL]
 rw[zEu h]
def zsZ{i:Nat}{w:Nat}(h:Inv L)(a:dq v L i=some w):w<4294967296:=by
 rw[LU] at a
 cases e:(dk v L)[i]? with
 | none=>rw[e] at a;cases a
 | some o =>
  rw[e] at a;have:=zsV (k:=L.length) (o:=o) (i:=i) h (by rw[abd];exact e);rw[show o=some w from a] at this;exact this
def zyD{kind x y:Int}(h:Inv L)(n:v.length=34)(s:∀c∈v,c<4294967296)(I:(cC kind 0 1).2=true)(J:cE L x=true)(K:cE L y=true) :
  wm v (iH L kind x y) (gL kind (dq v L x) (dq v L y)):=by
 rw[iH,if_pos ⟨I,J,K⟩]
 obtain⟨N,V⟩:0<=x/\x<L.length:=by simpa[cE] using J
 obtain⟨O,W⟩:0<=y/\y<L.length:=by simpa[cE] using K
 obtain⟨j,rfl⟩:=aa1 N;obtain⟨l,rfl⟩:=aa1 O;obtain⟨a,t⟩:∃a,L[j]?=some a:=⟨_,lf an⟩;obtain⟨c,z⟩:∃c,L[l]?=some c:=⟨_,lf an⟩;have b:=h.cO _ _ t;have d:=h.cO _ _ z;simp only[abx,t,z];have m:=zqK (kind:=kind) h b.1 d.1 b.2.1 d.2.1;obtain⟨o,A⟩:=bb ((ko L kind a c).2.2);rw[<-A] at m;have X:=m.pre.length_le;have B:=Uc (v:=v) h t;have C:=Uc (v:=v) h z
 have D:=LV (v:=v) m (i:=j) an;have E:=LV (v:=v) m (i:=l) an;have Y:=zwo (kind:=kind) m.inv b.2.1 d.2.1;rw[s9];simp only[<-A];split
 .rename_i g;obtain⟨P,Q,F⟩:=zEr (v:=v) h b.1 d.1 b.2.1 d.2.1 n g;rw[B,C,gC,if_pos P,gC,if_pos Q,A];exact F
 .split
  .rename_i g;obtain⟨p,q,R,S,F⟩:=zEs (v:=v) m.inv b.2.1 d.2.1 n s g;rw[B,C,zqL b.1 b.2.1 R n s,zqL d.1 d.2.1 S n s];exact F
  .have T:a.kind=0->dq v L j=some (j_ a.f v):=λk=>by rw[B,gC,if_pos k]
   have ky:c.kind=0->dq v L l=some (j_ c.f v):=λk=>by rw[C,gC,if_pos k]
   split
   .rename_i g;obtain⟨G,H⟩:=zuf (v:=v) (x:=(j:Int)) (y:=(l:Int)) (λw r=>zsZ h r) d.1 d.2.1 n ky (λe=>by rw[e]) g;refine⟨j,G,by show j<o.length;omega,?_⟩;rw[<-H];exact D
   .split
    .rename_i g;obtain⟨G,H⟩:=zuf (v:=v) (x:=(l:Int)) (y:=(j:Int)) (λw r=>zsZ h r) b.1 b.2.1 n T (λe=>by rw[e]) g.2;refine⟨l,G,by show l<o.length;omega,?_⟩;rw[zug g.1,<-H];exact E
    .have M:∀u w:Nat,u<L.length->w<L.length->wm v (bj o (AD kind u w)) (gL kind (dq v L u) (dq v L w)):=λu w U r=>by
      have:=zyC (v:=v) m.inv (zoF (kind:=kind) (x:=u) (y:=w) I an an)
      have e:gC v (dk v o) (AD kind u w)=gL kind (dq v L u) (dq v L w):=by rw[<-LV (v:=v) m U,<-LV (v:=v) m r,LU,LU];rfl
      rwa[e] at this
     split
     .rename_i g;rw[zug g.1];exact M l j an an
     .exact M j l an an
def zyE{i:Int}(h:Inv L)(a:v.length=34)(b:∀c∈v,c<4294967296)(d:0<=i)(e:i<34):wm v (ma L i) (some (v[i.toNat]?.getD 0)):=by rw[ma,if_pos ⟨d,e⟩];have:=Ud (v:=v) h (T4 i.toNat) (zsT _);rw[zoI an a b] at this;rw[lf an];exact this
def zuh{c:Nat}(h:Inv L)(b:v.length=34)(a:c<4294967296):wm v (bj L (fe (c::aR 34))) (some c):=by have:=Ud (v:=v) h (f:=c::aR 34) ir (Dq a);rwa[Du a b] at this
def zGT{x:Int}(h:Inv L)(b:v.length=34)(g:∀c∈v,c<4294967296)(d:cE L x=true):wm v (oV L x) ((dq v L x).map oJ):=by
 rw[oV,if_pos d]
 obtain⟨j,o⟩:0<=x/\x<L.length:=by simpa[cE] using d
 obtain⟨a,rfl⟩:=aa1 j;have e:=T_ h;obtain⟨i,f,k,l⟩:=zuh (v:=v) h b (c:=0) ah9;have p:=e.pre.length_le;have r:=zyD (v:=v) (kind:=20) (x:=(Aa L).1) (y:=(a:Int)) e.inv b g ah9 (by rw[Aa,f];simp[cE];exact k) (by simp[cE];omega)
 have m:dq v (Aa L).2 (Aa L).1=some 0:=by rw[Aa,f];exact l
 rw[m,LV e an] at r
 have n:gL 20 (some 0) (dq v L a)=(dq v L a).map oJ:=by
  cases dq v L a with
  | none=>rfl
  | some w=>simp[gL,cC,oJ]
 rwa[n] at r
variable {G:aL}
def Ab(x:af):Bool:=!(x.op==5)&&!aX x.op&&!fW x.op
def mX(x:af):Bool:=Ab x&&jS x&&kJ x
def a_(w:List af):Bool:=decide (w.length<=32)&&w.all mX
def wo:af:=⟨22,0,0,0⟩
def znw{x:af}(h:Ab x=true):x.op≠5/\aX x.op=false/\fW x.op=false:=by simp only[Ab,aae,ac1,beq_eq_false_iff_ne] at h;exact⟨h.1.1,h.1.2,h.2⟩
def zui{x:af}(h:Ab x=true)(left:Nat):cd x left=(jS x&&kJ x):=by obtain⟨a,b,c⟩:=znw h;simp[cd,a,b]
def zuj:∀{w:List af} (z:af),(∀x∈w,Ab x=true)->jF (w++[z])=((w.all λx=>jS x&&kJ x)&&cd z 0)
 | [],z,_=>by simp[jF]
 | x::w,z,h=>by
  rw[ab9,jF,zuj z λy a=>h y (by simp[a]),zui (h x ir)];simp[Bool.and_assoc]
def zBU{w:List af}(h:∀x∈w,Ab x=true)(f:w.length<=32):du (w++[wo])=w.all mX:=by
 have c:kK (w++[wo])=true:=by simp[kK];decide
 have d:cd wo 0=true:=by decide
 have e:(w++[wo]).length<=4096:=by simp;omega
 simp only[du,zuj wo h,c,d,e,acI,decide_true,abb];rw[acB,abe,abe];constructor
 .intro b x a;simp only[mX,h x a,abb];exact b x a
 .intro b x a;have:=b x a;simpa only[mX,h x a,abb] using this
def Ca[aE G][aD G][aQ G](w:List af)(H:w.length<=maxLen)(v:∀x∈w,x.k<4294967296):FP G 202 [FL w] (.bool (a_ w)):=by
 refine bw aQ.ahQ (aaf rfl) ?_
 by_cases j:w.length>32
 .have l:((32:Int)<(w.length:Int))=True:=ah7;simp[FL,l,a_,show¬w.length<=32 by omega]
 have l:((32:Int)<(w.length:Int))=False:=ah8
 have c:w.length<=32:=an
 simp[FL,l];refine aO w.length (λi=>[(0,FL w),(8,FL w),(9,.int .i64 w.length),(10,.int .i64 i)]) (λ_=>[]) (λi=>∀x∈w.take i,Ab x=true) ?_ ?_
 .simp[av,ak,FL]
 intro i hi m
 by_cases f:i<w.length
 .obtain⟨x,d⟩:=bb (w[i]);have n:=sC f;rw[<-d] at n;have d:=d.symm;have z:x∈w:=d▸aaD f;have r:=zL (G:=G) x;have s:=N_ (G:=G) x;have o:x.cs=[.int .i64 x.op,.int .i64 x.jt,.int .i64 x.jf,.int .u32 x.k]:=rfl;simp[IV,o] at r s
  have a:Ab x=false->a_ w=false:=by
   intro h
   have:w.all mX=false:=by rw[<-ab_,abe];intro A;have:=A x z;simp only[mX,h,ab5,aau] at this
   simp[a_,this]
  by_cases g:x.op=5
  .have p:(x.op==5)=true:=by simp[g]
   simp(disch:=omega)[bC,FL,n,o,p,a (by simp[Ab,g])]
  have p:(x.op==5)=false:=aG g;simp(disch:=omega)[bC,FL,n,o,p];refine aw r ?_;cases j:aX x.op
  .simp;refine aw s ?_;cases t:fW x.op
   .have B:∀y∈w.take (i+1),Ab y=true:=by
     intro y e;rw[abf,aah f,d] at e;simp only[Option.toList,aaE,aaY] at e
     rcases e with e|rfl
     .exact m y e
     .simp[Ab,g,j,t]
    simp(disch:=omega)[f,bA,av,ak,-aab];exact B
   .simp[a (by simp[Ab,t])]
  .simp[a (by simp[Ab,j])]
 .have C:i=w.length:=an
  subst C;rw[abd] at m
  have b:=Lb (G:=G) (w++[wo]) (by rw[aao];have:maxLen=9223372036854775807:=ah9;simp;omega) (λx D=>by
   rcases aaE.1 D with h|h
   .exact v x h
   .simp only[aaY] at h;subst h;decide)
  rw[zBU m c] at b
  have E:w.all mX=a_ w:=by simp[a_,c]
  rw[E] at b;have q:IL w++[[V.int .i64 22,.int .i64 0,.int .i64 0,.int .u32 0]]=IL (w++[wo]):=Sj w wo;have F:[[V.int .i64 22,.int .i64 0,.int .i64 0,.int .u32 0]]=IL ([]++[wo]):=rfl;simp only[FL] at b
  by_cases u:w=[]
  .subst u;simp only[ace] at b;simp[FL];refine aw b ?_;simp
  .simp(disch:=omega)[FL,Si,u,aB,q];refine aw b ?_;simp
@[simp] theorem zOc (x:af):x.cs.take 4=x.cs:=rfl
theorem zs0(f:List af)(n:Nat):(IL f).drop n=IL (f.drop n):=by simp[IL]
def zs1(f:List af)(n:Nat):(IL f).take n=IL (f.take n):=by simp[IL]
def E9(x y:af):cG [.int,.int,.int,.int] x.cs y.cs=some (decide (x=y)):=by obtain⟨a,b,c,d⟩:=x;obtain⟨e,f,c',d'⟩:=y;simp only[af.cs,cG,qP,if_true,acI,abC.injEq,af.mk.injEq];rw[acB];simp only[aae,beq_iff_eq,decide_eq_true_eq];omega
variable {H:ae} {b z m:Nat} {L:List Nd}
structure VS where
 L:List Nd
 p:List Int
 st:List Int
def vcs(p st:List Int)(tk:Tk):List V:=nA .i64 p++[.vs (ints .i64 st) tk]
def zJE:[V.int .i64 0,.int .i64 0,.int .i64 0,.int .i64 0,.int .i64 0,.int .i64 0,.int .i64 0,.int .i64 0,.int .i64 0,.int .i64 0,.int .i64 0,.int .i64 0,.int .i64 0,.int .i64 0,.int .i64 0,.int .i64 0,.int .i64 0,.int .i64 0,.vs [] .full]=vcs (abt 18 0) [] .full:=rfl
def zJ6:ax .u64 (aR 6)=[.int .u64 0,.int .u64 0,.int .u64 0,.int .u64 0,.int .u64 0,.int .u64 0]:=rfl
section
variable {p st:List Int} {tk:Tk}
def GZ(a:p.length=18):(vcs p st tk).length=19:=by simp[vcs,a]
def JD{i:Nat}(a:p.length=18)(hi:i<18):((vcs p st tk).drop i).take 1=[.int .i64 (p[i]' an)]:=by rw[vcs,abR (by simp;omega),zri,aaJ an];rfl
def Uf{i:Nat}(x:Int)(a:p.length=18)(hi:i<18):(vcs p st tk).take i++(.int .i64 x::(vcs p st tk).drop (i+1))=vcs (p.set i x) st tk:=by rw[vcs,vcs,List.take_append_of_le_length (by simp;omega),abR (by simp;omega),<-zAL .i64 p i x an];simp
def zwq(a:p.length=18):(vcs p st tk).take 1=[.int .i64 (p[0]' an)]:=JD (i:=0) a an
def zEv(a:p.length=18):(vcs p st tk).tail.take 1=[.int .i64 (p[1]' an)]:=by rw[<-acw];exact JD a an
def zEw(x:Int)(a:p.length=18):.int .i64 x::(vcs p st tk).tail=vcs (p.set 0 x) st tk:=by rw[<-acw];exact Uf (i:=0) x a an
def zEx(x:Int)(a:p.length=18):(vcs p st tk).take 1++(.int .i64 x::(vcs p st tk).drop 2)=vcs (p.set 1 x) st tk:=Uf (i:=1) x a an
def zwr(a:p.length=18):((vcs p st tk).drop 18).take 1=[.vs (ints .i64 st) tk]:=by rw[vcs,ab1 (by simp[a])];rfl
def zBV(st':List Int)(a:Tk)(b:p.length=18):(vcs p st tk).take 18++(.vs (ints .i64 st') a::(vcs p st tk).drop 19)=vcs p st' a:=by rw[vcs,vcs,acd (by simp[b]),aan (by simp[b])]
def zws(a:p.length=18):(vcs p st tk).take 19=vcs p st tk:=aaj (by rw[GZ a];omega)
def zBW(n a:Nat)(h:a<n):aZ n (vcs p st (.own a))=vcs p st (.own a):=by rw[g9,vcs];simp[nA,aas,V.cl,Tk.cl,h]
end
noncomputable def uQ(s:VS)(x:af):Int×List Nd:=if(bf x.op).2.1=true then(s.p.getD 1 0,s.L) else bj s.L (fe (x.k::aR 34))
noncomputable def fP(s:VS)(x:af):VS :=
 if(bf x.op).2.2=true then
  ⟨(iH (uQ s x).2 (bf x.op).1 (s.p.getD 0 0) (uQ s x).1).2,s.p.set 0 (iH (uQ s x).2 (bf x.op).1 (s.p.getD 0 0) (uQ s x).1).1,
   if(bf x.op).2.1=true/\(bf x.op).1=52 then s.st++[s.p.getD 1 0] else s.st⟩
 else if x.op=0 then⟨(bj s.L (fe (x.k::aR 34))).2,s.p.set 0 (bj s.L (fe (x.k::aR 34))).1,s.st⟩
 else if x.op=1 then⟨(bj s.L (fe (x.k::aR 34))).2,s.p.set 1 (bj s.L (fe (x.k::aR 34))).1,s.st⟩
 else if x.op=32 then⟨(ma s.L (18+(x.k/4:Nat))).2,s.p.set 0 (ma s.L (18+(x.k/4:Nat))).1,s.st⟩
 else if x.op=96 then⟨s.L,s.p.set 0 (s.p.getD (2+x.k) 0),s.st⟩
 else if x.op=97 then⟨s.L,s.p.set 1 (s.p.getD (2+x.k) 0),s.st⟩
 else if x.op=2 then⟨s.L,s.p.set (2+x.k) (s.p.getD 0 0),s.st⟩
 else if x.op=3 then⟨s.L,s.p.set (2+x.k) (s.p.getD 1 0),s.st⟩
 else if x.op=132 then⟨(oV s.L (s.p.getD 0 0)).2,s.p.set 0 (oV s.L (s.p.getD 0 0)).1,s.st⟩
 else if x.op=7 then⟨s.L,(s.p.set 1 (s.p.getD 0 0)).set 0 (s.p.getD 0 0),s.st⟩
 else if x.op=135 then⟨s.L,s.p.set 0 (s.p.getD 1 0),s.st⟩
 else s
def Bk.mB{a k n:Nat}(h:Bk H b z m L)(c:H[a]?=some (some (.zone k)))(f:a≠z):Bk (H.set a (some (.zone n))) b z m L:=by
 have g:a≠b:=λe=>by rw[e,h.hb] at c;simp[zU] at c
 have i:a≠m:=λe=>by rw[e,h.hm] at c;simp at c
 refine⟨by rw[aaH g];exact h.hb,by rw[aaH f];exact h.hz,by rw[aaH i];exact h.hm,λn d=>?_,h.ok,h.small⟩;rw[aaw] at d;rw[Ep,h.shut n d];rfl
def zEy{a k:Nat}(h:Bk H b z m L)(c:H[a]?=some (some (.zone k)))(d:a≠z)(x:Option ay)(L':List Nd):dE (H.set a x) b z m L'=(dE H b z m L').set a x:=by
 have f:a≠b:=λe=>by rw[e,h.hb] at c;simp[zU] at c
 have g:a≠m:=λe=>by rw[e,h.hm] at c;simp at c
 unfold dE;rw[ab8 _ _ f,ab8 _ _ d,ab8 _ _ g]
def zEz{a k:Nat}(h:Bk H b z m L)(c:H[a]?=some (some (.zone k)))(d:a≠z)(L':List Nd):(dE H b z m L')[a]?=some (some (.zone k)):=by
 have f:b≠a:=λe=>by rw[<-e,h.hb] at c;simp[zU] at c
 have g:m≠a:=λe=>by rw[<-e,h.hm] at c;simp at c
 unfold dE;rw[aaH g,aaH (Ne.symm d),aaH f];exact c
section
variable {α:Type} {H l:List α} {n:Nat} (h:H.length=n)
include h
def oW:(H++l)[n]?=l[0]?:=by subst h;exact ll H l
def rW(k:Nat):(H++l)[n+k]?=l[k]?:=by subst h;exact iG H l k
def tY(x:α):(H++l).set n x=H++l.set 0 x:=by subst h;exact z8 H l x
def y6(k:Nat)(x:α):(H++l).set (n+k) x=H++l.set k x:=by subst h;exact xT H l k x
end
def zBX[dT G][dy G][aE G][au G][bJ G][aN G][cu G](s:VS)(x:af)(g:Nat)(h:Bk H b z m s.L)(tO:H[g]?=some (some (.zone s.st.length)))(az:g≠z)(hi:Inv s.L)(hs:s.L.length<900000)
  (a:s.p.length=18) (ht:s.st.length<=1000) (hk:x.k<4294967296) (hx:mX x=true) :
  SF G 295 [.ptr b 0,.agg (vcs s.p s.st (.own g)),IV x] H (.agg (vcs (fP s x).p (fP s x).st (.own g))) ((dE H b z m (fP s x).L).set g (some (.zone (fP s x).st.length))):=by
 refine kr cu.ae2 (aaf rfl) ?_;have C:=(aaa.1 tO).1;have qi:=h.lb;obtain⟨Z,hZ⟩:∃Z:List V,Z=vcs (abt 18 0) [] .full:=⟨_,rfl⟩
 have D:Z.length=19:=by rw[hZ];rfl
 have E:Z.drop 19=[]:=aan an
 have kZ:∀n,aZ n Z=Z:=λn=>by rw[hZ];simp[vcs,nA,aZ,V.cl]
 have dR:=K5 (G:=G) x;have fD:x.cs.length=4:=rfl;have lL:x.cs.take 4=x.cs:=rfl
 have kx:∀n,aZ n x.cs=x.cs:=λn=>by simp[af.cs,aZ,V.cl]
 have x0:x.cs.take 1=[.int .i64 x.op]:=rfl;have x3:(x.cs.drop 3).take 1=[.int .u32 x.k]:=rfl
 have JE:=zJE.trans hZ.symm
 obtain⟨W,B⟩:∃W:List Int->List Int->List V,∀p st,W p st=vcs p st (.own g):=⟨_,λ_ _=>rfl⟩
 have f:∀p st,p.length=18->(W p st).length=19:=λp st a=>by rw[B];exact GZ a
 have F:∀p st,p.length=18->(W p st).take 19=W p st:=λp st a=>by rw[B];exact zws a
 have A:∀p st n,g<n->aZ n (W p st)=W p st:=λp st n J=>by rw[B];exact zBW n g J
 have S:∀p st,(a:p.length=18)->(W p st).take 1=[.int .i64 (p[0]' an)]:=λp st a=>by rw[B];exact zwq a
 have W1:∀p st,(a:p.length=18)->(W p st).tail.take 1=[.int .i64 (p[1]' an)]:=λp st a=>by rw[B];exact zEv a
 have Ws:∀p st,p.length=18->((W p st).drop 18).take 1=[.vs (ints .i64 st) (.own g)]:=λp st a=>by rw[B];exact zwr a
 have T:∀p st (v:Int),p.length=18->.int .i64 v::(W p st).tail=W (p.set 0 v) st:=λp st v a=>by rw[B,B];exact zEw v a
 have S1:∀p st (v:Int),p.length=18->(W p st).take 1++(.int .i64 v::(W p st).drop 2)=W (p.set 1 v) st:=λp st v a=>by rw[B,B];exact zEx v a
 have Ss:∀p st U,p.length=18->(W p st).take 18++(.vs (ints .i64 U) (.own g)::(W p st).drop 19)=W p U:=λp st U a=>by rw[B,B];exact zBV U _ a
 have Wg:∀p st (k:Nat),(a:p.length=18)->(hk:k<16)->((W p st).drop (2+k)).take 1=[.int .i64 (p[2+k]' an)]:=λp st k a hk=>by rw[B];exact JD a an
 have Wk:∀p st (k:Nat) (v:Int),p.length=18->k<16->(W p st).take (2+k)++(.int .i64 v::(W p st).drop (2+k+1))=W (p.set (2+k) v) st:=λp st k v a hk=>by rw[B,B];exact Uf v a an
 have ha:∀v:Int,V.int .i64 (s.p[0]' an)::.int .i64 v::(W s.p s.st).drop 2=W (s.p.set 1 v) s.st:=λv=>by
  have:=S1 s.p s.st v a;rw[S _ _ a] at this;exact this
 have g0:s.p.getD 0 0=s.p[0]'(by omega):=by rw[aak,lf an];rfl
 have g1:s.p.getD 1 0=s.p[1]'(by omega):=by rw[aak,lf an];rfl
 have u:∀(i:Nat) (v:Int),(s.p.set i v).length=18:=λi v=>by rw[aaw];exact a
 have bR:∀(H':ae) (L':List Nd) (C':List V),H'.length=H.length->Bk H' b z m L'->(∀n,g<n->aZ n C'=C')->Bk (H'++[some (.cells C'),some (.cells x.cs),some (.cells Z)]) b z m L':=λH' L' C' hl hB hc =>
  hB.rV λn J=>by simp at J;simp[ay.cl,kx,kZ,hc n an]
 have LW:∀(L':List Nd),(dE H b z m L').set g (some (.zone s.st.length))=dE H b z m L':=λL'=>Eo (zEz h tO az L');rw[<-B,<-B];simp[IV,fD,lL,JE,aB,leFn];refine aw dR ?_
 cases I:(bf x.op).2.2 with
 | true =>
  cases rG:(bf x.op).2.1 with
  | false =>
   obtain⟨q,j⟩:∃q,q=bj s.L (fe (x.k::aR 34)):=⟨_,rfl⟩
   have ju:uQ s x=q:=by rw[uQ,rG,j];rfl
   obtain⟨r,hr⟩:=bb (iH q.2 (bf x.op).1 s.p[0] q.1)
   have l:fP s x=⟨r.2,s.p.set 0 r.1,s.st⟩:=by rw[fP,if_pos I,ju,g0,<-hr,rG];rfl
   have O:Ext s.L q.2 1:=by rw[j];exact(wX hi (z_ ir (Dq hk) _)).1
   have l1:=O.len;obtain⟨H1,LK⟩:=bb (dE H b z m q.2)
   have n1:H1.length=H.length:=by rw[LK,sS]
   have B1:Bk H1 b z m q.2:=by rw[LK];exact h.to O.inv an
   have c1:=LL (G:=G) x.k (bR H s.L (W s.p s.st) rfl h (λn J=>A _ _ n J)) an;rw[BF,<-j,h.cA,<-LK] at c1;obtain⟨H2,c⟩:=bb (dE H b z m r.2)
   have o:H2.length=H.length:=by rw[c,sS]
   have w:=T6 (G:=G) (bf x.op).1 s.p[0] q.1 (bR H1 q.2 (W s.p s.st) n1 B1 (λn J=>A _ _ n J)) O.inv an;rw[BF,<-hr,B1.cA,show dE H1 b z m r.2=H2 by rw[LK,c,h.mh]] at w
   have t:∀d,ak H.length (H2++d)=H2:=λd=>by rw[c];exact h.back _ d
   have K:H2.set g (some (.zone s.st.length))=H2:=by rw[c];exact LW _
   rw[l];simp only[<-c];simp[f _ _ a,W1 _ _ a,fD,x3,aB,leFn];refine cP c1 ?_;simp[f _ _ a,S _ _ a,aB,leFn,n1];refine cP w ?_
   simp[f _ _ a,f _ _ (u _ _),F _ _ (u _ _),T _ _ _ a,D,E,aB,leFn,o,tY o,y6 o,t,A _ _ _ C,K]
  | true =>
   obtain⟨r,hr⟩:=bb (iH s.L (bf x.op).1 s.p[0] s.p[1])
   by_cases JF:(bf x.op).1=52
   .have kG:=hr;rw[JF] at kG
    have l:fP s x=⟨r.2,s.p.set 0 r.1,s.st++[s.p[1]]⟩:=by rw[fP,if_pos I];simp only[uQ,rG,if_true,g0,g1,JF,<-kG,and_self]
    obtain⟨Hz,Ug⟩:=bb (H.set g (some (.zone (s.st.length+1))))
    have Uh:Hz.length=H.length:=by rw[Ug,aaw]
    have Bz:Bk Hz b z m s.L:=by rw[Ug];exact h.mB tO az
    obtain⟨H2,c⟩:=bb (dE Hz b z m r.2)
    have o:H2.length=H.length:=by rw[c,sS,Uh]
    have B4:Bk (Hz++[some (.cells (W s.p (s.st++[s.p[1]]))),some (.cells x.cs),some (.cells Z),none]) b z m s.L:=Bz.rV λn J=>by simp at J;simp[ay.cl,kx,kZ,A _ _ n (show g<n by omega)]
    have w:=T6 (G:=G) (bf x.op).1 s.p[0] s.p[1] B4 hi an;rw[BF,<-hr,Bz.cA,<-c] at w;have h8:((s.st.length+1)*8<=140737488355328)=True:=ah7
    have t:∀d,ak H.length (H2++d)=H2:=λd=>by rw[c,<-Uh];exact Bz.back _ d
    have K:(dE H b z m r.2).set g (some (.zone (s.st.length+1)))=H2:=by rw[c,Ug,zEy h tO az]
    have gz:∀d,(H++d)[g]?=some (some (.zone s.st.length)):=λd=>by rw[aai C];exact tO
    have sz:∀(y:Option ay) (d:ae),(H++d).set g y=H.set g y++d:=λy d=>aaQ _ _ C;have hb:((bf x.op).1==52)=true:=D7 JF;have CO:∀st:List Int,True:=λ_=>trivial;rw[l];simp[f _ _ a,S _ _ a,W1 _ _ a,Ws _ _ a,Ss _ _ _ a,aB,leFn,hb,gz,sz,<-Ug,h8,Uh,tY Uh];refine cP w ?_;simp[f _ _ a,f _ _ (u _ _),F _ _ (u _ _),T _ _ _ a,D,E,aB,leFn,o,tY o,y6 o,t,A _ _ _ C,K]
   .have l:fP s x=⟨r.2,s.p.set 0 r.1,s.st⟩:=by rw[fP,if_pos I];simp only[uQ,rG,if_true,g0,g1,<-hr,JF,and_false,if_false]
    have hb:((bf x.op).1==52)=false:=aG JF;obtain⟨H2,c⟩:=bb (dE H b z m r.2)
    have o:H2.length=H.length:=by rw[c,sS]
    have w:=T6 (G:=G) (bf x.op).1 s.p[0] s.p[1] (bR H s.L (W s.p s.st) rfl h (λn J=>A _ _ n J)) hi an;rw[BF,<-hr,h.cA,<-c] at w
    have t:∀d,ak H.length (H2++d)=H2:=λd=>by rw[c];exact h.back _ d
    have K:H2.set g (some (.zone s.st.length))=H2:=by rw[c];exact LW _
    rw[l];simp only[<-c];simp[f _ _ a,S _ _ a,W1 _ _ a,aB,leFn,hb];refine cP w ?_
    simp[f _ _ a,f _ _ (u _ _),F _ _ (u _ _),T _ _ _ a,D,E,aB,leFn,o,tY o,y6 o,t,A _ _ _ C,K]
 | false =>
  have iy:x.op=96\/x.op=97\/x.op=2\/x.op=3->x.k<16:=λho=>by
   simp only[mX,aae] at hx;have h2:=hx.2
   rcases ho with ho|ho|ho|ho<;>simp[kJ,ho] at h2<;>exact h2
  have dG:=h.shut.back;have LX:fc .i64 x.k=(x.k:Int):=Ip an;have nc:=h.gA;have G0:H.set g (some (.zone s.st.length))=H:=Eo tO;have Ui:=bR H s.L (W s.p s.st) rfl h (λn J=>A _ _ n J);simp[fD,x0,x3,aB,leFn]
  by_cases M:x.op=0
  .have l:∀q,q=bj s.L (fe (x.k::aR 34))->fP s x=⟨q.2,s.p.set 0 q.1,s.st⟩:=λq j=>by rw[fP,if_neg (by simp[I]),if_pos M,<-j]
   obtain⟨q,j⟩:∃q,q=bj s.L (fe (x.k::aR 34)):=⟨_,rfl⟩
   have O:Ext s.L q.2 3:=by rw[j];exact(wX hi (z_ ir (Dq hk) _)).1.mono an
   have l1:=O.len;obtain⟨H2,c⟩:=bb (dE H b z m q.2)
   have o:H2.length=H.length:=by rw[c,sS]
   have w:=LL (G:=G) x.k Ui an;rw[BF,<-j,h.cA,<-c] at w
   have t:∀d,ak H.length (H2++d)=H2:=λd=>by rw[c];exact h.back _ d
   have K:H2.set g (some (.zone s.st.length))=H2:=by rw[c];exact LW _
   rw[l q j];simp only[<-c];simp(disch:=omega)[fD,x3,leFn,iG,M];refine cP w ?_;simp[f _ _ a,f _ _ (u _ _),F _ _ (u _ _),T _ _ _ a,D,E,aB,leFn,o,tY o,y6 o,t,A _ _ _ C,K]
  have b0:(x.op==0)=false:=aG M
  by_cases N:x.op=1
  .have l:∀q,q=bj s.L (fe (x.k::aR 34))->fP s x=⟨q.2,s.p.set 1 q.1,s.st⟩:=λq j=>by rw[fP,if_neg (by simp[I]),if_neg M,if_pos N,<-j]
   obtain⟨q,j⟩:∃q,q=bj s.L (fe (x.k::aR 34)):=⟨_,rfl⟩
   have O:Ext s.L q.2 3:=by rw[j];exact(wX hi (z_ ir (Dq hk) _)).1.mono an
   have l1:=O.len;obtain⟨H2,c⟩:=bb (dE H b z m q.2)
   have o:H2.length=H.length:=by rw[c,sS]
   have w:=LL (G:=G) x.k Ui an;rw[BF,<-j,h.cA,<-c] at w
   have t:∀d,ak H.length (H2++d)=H2:=λd=>by rw[c];exact h.back _ d
   have K:H2.set g (some (.zone s.st.length))=H2:=by rw[c];exact LW _
   rw[l q j];simp only[<-c];simp(disch:=omega)[fD,x3,leFn,iG,N];refine cP w ?_;simp[f _ _ a,f _ _ (u _ _),F _ _ (u _ _),S _ _ a,ha,D,E,aB,leFn,o,tY o,y6 o,t,A _ _ _ C,K]
  have b1:(x.op==1)=false:=aG N
  by_cases P:x.op=32
  .have l:∀q,q=ma s.L (18+(x.k/4:Nat))->fP s x=⟨q.2,s.p.set 0 q.1,s.st⟩:=λq j=>by rw[fP,if_neg (by simp[I]),if_neg M,if_neg N,if_pos P,<-j]
   have qd:kF .i64 (x.k:Int) 4=((x.k/4:Nat):Int):=zNc (b:=4) an;have X:aC .i64 18 ((x.k/4:Nat):Int)=18+((x.k/4:Nat):Int):=eB an an;obtain⟨q,j⟩:∃q,q=ma s.L (18+(x.k/4:Nat)):=⟨_,rfl⟩
   have O:Ext s.L q.2 3:=by rw[j];exact(LQ hi).mono an
   have l1:=O.len;obtain⟨H2,c⟩:=bb (dE H b z m q.2)
   have o:H2.length=H.length:=by rw[c,sS]
   have w:=zyq (G:=G) (18+((x.k/4:Nat):Int)) Ui an;rw[BF,<-j,h.cA,<-c] at w
   have t:∀d,ak H.length (H2++d)=H2:=λd=>by rw[c];exact h.back _ d
   have K:H2.set g (some (.zone s.st.length))=H2:=by rw[c];exact LW _
   rw[l q j];simp only[<-c];simp(disch:=omega)[P,LX,qd,X,-abF];refine cP w ?_;simp[f _ _ a,f _ _ (u _ _),F _ _ (u _ _),T _ _ _ a,D,E,aB,leFn,o,tY o,y6 o,t,A _ _ _ C,K]
  have he:(x.op==32)=false:=aG P
  have hf:∀(p':List Int),p'.length=18->fP s x=⟨s.L,p',s.st⟩->V.agg (W p' s.st)=V.agg (vcs (fP s x).p (fP s x).st (.own g))/\(dE H b z m (fP s x).L).set g (some (.zone (fP s x).st.length))=H:=λp' iM e=>by
   rw[e];refine⟨by rw[B],?_⟩;show(dE H b z m s.L).set g (some (.zone s.st.length))=H;rw[nc,G0]
  by_cases R:x.op=96
  .have Q:=iy an
   have X:aC .i64 2 (x.k:Int)=((2+x.k:Nat):Int):=by rw[eB an an];omega
   have gk:s.p.getD (2+x.k) 0=s.p[2+x.k]'(by omega):=by rw[aak,lf an];rfl
   have l:fP s x=⟨s.L,s.p.set 0 (s.p[2+x.k]'(by have:=iy an;omega)),s.st⟩:=by rw[fP,if_neg (by simp[I]),if_neg M,if_neg N,if_neg P,if_pos R,gk]
   have F9:=Wg s.p s.st x.k a Q;have xu:=λv=>Wk s.p s.st x.k v a Q;rw[l];simp(disch:=omega)[f _ _ a,f _ _ (u _ _),F _ _ (u _ _),T _ _ _ a,D,E,aB,leFn,ll,iG,R,LX,X,bC,nY,F9,-aab,nc,G0,dG,A _ _ _ C]
  have hg:(x.op==96)=false:=aG R
  by_cases Y:x.op=97
  .have Q:=iy an
   have X:aC .i64 2 (x.k:Int)=((2+x.k:Nat):Int):=by rw[eB an an];omega
   have gk:s.p.getD (2+x.k) 0=s.p[2+x.k]'(by omega):=by rw[aak,lf an];rfl
   have l:fP s x=⟨s.L,s.p.set 1 (s.p[2+x.k]'(by have:=iy an;omega)),s.st⟩:=by rw[fP,if_neg (by simp[I]),if_neg M,if_neg N,if_neg P,if_neg R,if_pos Y,gk]
   have F9:=Wg s.p s.st x.k a Q;have xu:=λv=>Wk s.p s.st x.k v a Q;rw[l];simp(disch:=omega)[f _ _ a,f _ _ (u _ _),F _ _ (u _ _),S _ _ a,ha,D,E,aB,leFn,ll,iG,Y,LX,X,bC,nY,F9,-aab,nc,G0,dG,A _ _ _ C]
  have hh:(x.op==97)=false:=aG Y
  by_cases o2:x.op=2
  .have Q:=iy an
   have X:aC .i64 2 (x.k:Int)=((2+x.k:Nat):Int):=by rw[eB an an];omega
   have gk:s.p.getD (2+x.k) 0=s.p[2+x.k]'(by omega):=by rw[aak,lf an];rfl
   have l:fP s x=⟨s.L,s.p.set (2+x.k) s.p[0],s.st⟩:=by rw[fP,if_neg (by simp[I]),if_neg M,if_neg N,if_neg P,if_neg R,if_neg Y,if_pos o2,g0]
   have F9:=Wg s.p s.st x.k a Q;have xu:=λv=>Wk s.p s.st x.k v a Q;rw[l];simp(disch:=omega)[f _ _ a,f _ _ (u _ _),F _ _ (u _ _),S _ _ a,D,E,aB,leFn,ll,iG,o2,LX,X,bC,nY,xu,-aab,nc,G0,dG,A _ _ _ C]
  have b2:(x.op==2)=false:=aG o2
  by_cases o3:x.op=3
  .have Q:=iy an
   have X:aC .i64 2 (x.k:Int)=((2+x.k:Nat):Int):=by rw[eB an an];omega
   have gk:s.p.getD (2+x.k) 0=s.p[2+x.k]'(by omega):=by rw[aak,lf an];rfl
   have l:fP s x=⟨s.L,s.p.set (2+x.k) s.p[1],s.st⟩:=by rw[fP,if_neg (by simp[I]),if_neg M,if_neg N,if_neg P,if_neg R,if_neg Y,if_neg o2,if_pos o3,g1]
   have F9:=Wg s.p s.st x.k a Q;have xu:=λv=>Wk s.p s.st x.k v a Q;rw[l];simp(disch:=omega)[f _ _ a,f _ _ (u _ _),F _ _ (u _ _),W1 _ _ a,D,E,aB,leFn,ll,iG,o3,LX,X,bC,nY,xu,-aab,nc,G0,dG,A _ _ _ C]
  have b3:(x.op==3)=false:=aG o3
  by_cases uS:x.op=132
  .have l:∀q,q=oV s.L s.p[0]->fP s x=⟨q.2,s.p.set 0 q.1,s.st⟩:=λq j=>by rw[fP,if_neg (by simp[I]),if_neg M,if_neg N,if_neg P,if_neg R,if_neg Y,if_neg o2,if_neg o3,if_pos uS,g0,<-j]
   obtain⟨q,j⟩:=bb (oV s.L s.p[0])
   have O:Ext s.L q.2 3:=by rw[j];exact zsY hi
   have l1:=O.len;obtain⟨H2,c⟩:=bb (dE H b z m q.2)
   have o:H2.length=H.length:=by rw[c,sS]
   have w:=zGR (G:=G) s.p[0] Ui hi an;rw[BF,<-j,h.cA,<-c] at w
   have t:∀d,ak H.length (H2++d)=H2:=λd=>by rw[c];exact h.back _ d
   have K:H2.set g (some (.zone s.st.length))=H2:=by rw[c];exact LW _
   rw[l q j];simp only[<-c];simp(disch:=omega)[f _ _ a,S _ _ a,aB,leFn,ll,uS];refine cP w ?_;simp[f _ _ a,f _ _ (u _ _),F _ _ (u _ _),T _ _ _ a,D,E,aB,leFn,o,tY o,y6 o,t,A _ _ _ C,K]
  have hj:(x.op==132)=false:=aG uS
  by_cases o7:x.op=7
  .have l:fP s x=⟨s.L,(s.p.set 1 s.p[0]).set 0 s.p[0],s.st⟩:=by rw[fP,if_neg (by simp[I]),if_neg M,if_neg N,if_neg P,if_neg R,if_neg Y,if_neg o2,if_neg o3,if_neg uS,if_pos o7,g0]
   have vL:(s.p.set 1 s.p[0]).length=18:=u _ _;have w1:=W1 (s.p.set 1 s.p[0]) s.st vL;have w0:=T (s.p.set 1 s.p[0]) s.st s.p[0] vL
   have wN:((s.p.set 1 s.p[0]).set 0 s.p[0]).length=18:=by rw[aaw];exact vL
   have w2:=f ((s.p.set 1 s.p[0]).set 0 s.p[0]) s.st wN;have w3:=F ((s.p.set 1 s.p[0]).set 0 s.p[0]) s.st wN;simp at w1;rw[l];simp(disch:=omega)[f _ _ a,f _ _ (u _ _),S _ _ a,ha,D,E,aB,leFn,ll,iG,o7,nc,G0,dG,A _ _ _ C,w0,w1,w2,w3]
  have b7:(x.op==7)=false:=aG o7
  by_cases x9:x.op=135
  .have l:fP s x=⟨s.L,s.p.set 0 s.p[1],s.st⟩:=by rw[fP,if_neg (by simp[I]),if_neg M,if_neg N,if_neg P,if_neg R,if_neg Y,if_neg o2,if_neg o3,if_neg uS,if_neg o7,if_pos x9,g1]
   rw[l];simp(disch:=omega)[f _ _ a,f _ _ (u _ _),F _ _ (u _ _),W1 _ _ a,T _ _ _ a,D,E,aB,leFn,ll,iG,x9,nc,G0,dG,A _ _ _ C]
  have hm:(x.op==135)=false:=aG x9
  have l:fP s x=s:=by rw[fP,if_neg (by simp[I]),if_neg M,if_neg N,if_neg P,if_neg R,if_neg Y,if_neg o2,if_neg o3,if_neg uS,if_neg o7,if_neg x9]
  rw[l];simp(disch:=omega)[f _ _ a,F _ _ a,D,E,leFn,ll,iG,b0,b1,he,hg,hh,b2,b3,hj,b7,hm,LX,nc,G0,dG,A _ _ _ C]
open Go Go.RowKit
variable {G:aL}
variable {H:ae} {b z m:Nat} {L:List Nd}
noncomputable def E_(s:VS)(i:Nat):VS:=⟨(ma s.L i).2,s.p.set i (ma s.L i).1,s.st⟩
noncomputable def kA(L:List Nd)(n:Nat):VS:=(aaI n).foldl E_ ⟨L,abt 18 0,[]⟩
def Uj(L:List Nd)(n:Nat):kA L (n+1)=E_ (kA L n) n:=by simp[kA,abv]
noncomputable def aK(L:List Nd)(w:List af):VS:=w.foldl fP (kA L 18)
def zBY(L:List Nd)(w:List af)(x:af):aK L (w++[x])=fP (aK L w) x:=by simp[aK]
structure Fa (L:List Nd) (s:VS) (k n:Nat):Prop where
 ext:Ext L s.L k
 len:s.p.length=18
 st:s.st.length<=n
def zwt{s:VS}{k n:Nat}(h:Fa L s k n){x:af}(g:x.k<4294967296):Fa L (fP s x) (k+3) (n+1):=by
 have hi:=h.ext.inv;have a:∀p:List Int,p.length=18->Fa L ⟨s.L,p,s.st⟩ (k+3) (n+1):=λp c=>⟨h.ext.mono an,c,by have:=h.st;show s.st.length<=_;omega⟩;have b:∀(q:Int×List Nd) (p:List Int) (st:List Int),Ext s.L q.2 3->p.length=18->st.length<=n+1->Fa L ⟨q.2,p,st⟩ (k+3) (n+1):=λq p st e c i=>⟨h.ext.trans e,c,i⟩;have j:=h.st;have d:Ext s.L (bj s.L (fe (x.k::aR 34))).2 1:=(wX hi (z_ ir (Dq g) _)).1
 rw[fP];split
 .have f:Ext s.L (uQ s x).2 1:=by
   rw[uQ];split
   .exact .refl hi 1
   .exact d
  refine b (iH (uQ s x).2 (bf x.op).1 (s.p.getD 0 0) (uQ s x).1) _ _ (f.trans (zsX f.inv)) (by rw[aaw];exact h.len) ?_;split
  .simp;omega
  .omega
 .split
  .exact b _ _ _ (d.mono an) (by rw[aaw];exact h.len) an
  .split
   .exact b _ _ _ (d.mono an) (by rw[aaw];exact h.len) an
   .split
    .exact b _ _ _ ((LQ hi).mono an) (by rw[aaw];exact h.len) an
    .split
     .exact a _ (by rw[aaw];exact h.len)
     .split
      .exact a _ (by rw[aaw];exact h.len)
      .split
       .exact a _ (by rw[aaw];exact h.len)
       .split
        .exact a _ (by rw[aaw];exact h.len)
        .split
         .exact b _ _ _ (zsY hi) (by rw[aaw];exact h.len) an
         .split
          .exact a _ (by rw[aaw,aaw];exact h.len)
          .split
           .exact a _ (by rw[aaw];exact h.len)
           .exact a _ h.len
def LY(h:Inv L):∀n,Fa L (kA L n) n 0
 | 0=>⟨.refl h 0,by simp[kA],by simp[kA]⟩
 | n+1=>by
  have a:=LY h n;rw[Uj];exact⟨a.ext.trans (LQ a.ext.inv),by show(List.set _ _ _).length=18;rw[aaw];exact a.len,a.st⟩
def zwu(L:List Nd):∀n,(kA L n).st=[]
 | 0=>by simp[kA]
 | n+1=>by rw[Uj];exact zwu L n
def Cb(h:Inv L):∀(w:List af),(∀x∈w,x.k<4294967296)->Fa L (aK L w) (18+3*w.length) w.length:=λw=>by
 have:∀(w:List af) (s:VS) (k n:Nat),Fa L s k n->(∀x∈w,x.k<4294967296)->Fa L (w.foldl fP s) (k+3*w.length) (n+w.length):=λw=>by
  induction w with
  | nil=>intro s k n h _;exact h
  | cons x w b =>
   intro s k n h a;have:=b (fP s x) (k+3) (n+1) (zwt h (a x ir)) λy c=>a y (by simp[c])
   have d:k+3+3*w.length=k+3*(x::w).length:=by simp;omega
   have e:n+1+w.length=n+(x::w).length:=by simp;omega
   rw[d,e] at this;exact this
 intro a;have:=this w (kA L 18) 18 0 (LY h 18) a;rwa[abm] at this
def zNr[aE G][aD G][aQ G][cu G](w:List af)(h:Bk H b z m L)(c:w.length<=maxLen)(d:∀x∈w,x.k<4294967296)(e:a_ w=false) :
  SF G 296 [.ptr b 0,FL w] H (.bc [.agg (vcs (abt 18 0) [] .full),.bool false]) H:=by
 refine kr cu.ae3 (aaf rfl) ?_;have f:=h.shut.back;have a:=Ca (G:=G) w c d;simp[FL] at a |-;refine aw a ?_;simp[e,f,vcs,nA]
def zNs[dT G][dy G][aE G][aD G][aQ G][au G][bJ G][aN G][cu G](w:List af)(h:Bk H b z m L)(hi:Inv L)(hs:L.length<=800000)(hf:w.length<=maxLen)(O:∀x∈w,x.k<4294967296)(y:a_ w=true) :
  SF G 296 [.ptr b 0,FL w] H (.bc [.agg (vcs (aK L w).p (aK L w).st .no),.bool true]) (dE H b z m (aK L w).L):=by
 refine kr cu.ae3 (aaf rfl) ?_;have uM:=h.lz;have qi:=h.lb;have nc:=h.gA;have I:=Ca (G:=G) w hf O
 have qJ:w.length<=32:=by simp only[a_,aae,decide_eq_true_eq] at y;exact y.1
 have P:∀x∈w,mX x=true:=by simp only[a_,aae,abe] at y;exact y.2
 obtain⟨Z,A⟩:∃Z:List V,Z=vcs (abt 18 0) [] .full:=⟨_,rfl⟩
 have lZ:Z.length=19:=by rw[A];rfl
 have ew:Z.drop 19=[]:=aan an
 have kZ:∀n,aZ n Z=Z:=λn=>by rw[A];simp[vcs,nA,aZ,V.cl]
 have Q:Z[18]?=some (.vs [] .full):=by rw[A];rfl
 have R:=(aaa.1 Q).2
 have JE:=zJE.trans A.symm
 obtain⟨d,J⟩:=bb (H.length+2);obtain⟨W,e⟩:∃W:List Int->List Int->List V,∀p st,W p st=vcs p st (.own d):=⟨_,λ_ _=>rfl⟩
 have l:∀p st,p.length=18->(W p st).length=19:=λp st B=>by rw[e];exact GZ B
 have S:∀p st,p.length=18->(W p st).take 19=W p st:=λp st B=>by rw[e];exact zws B
 have Wc:∀p st n,d<n->aZ n (W p st)=W p st:=λp st n U=>by rw[e];exact zBW n d U
 have Wd:∀p st,p.length=18->(W p st).drop 19=[]:=λp st B=>aan (by rw[l _ _ B];omega)
 have Wn:∀p st,aZ H.length (W p st)=vcs p st .no:=λp st=>by
  rw[e,g9,vcs,vcs,J];simp[nA,aas,V.cl,Tk.cl]
 have X:Z.set 18 (.vs [] (.own d))=W (abt 18 0) []:=by rw[A,e];rfl
 obtain⟨t,u⟩:∃t:VS->ae,∀s,t s=dE H b z m s.L++[some (.cells Z),some (.cells (W s.p s.st)),some (.zone s.st.length)]:=⟨_,λ_=>rfl⟩
 have bl:∀s,(t s).length=H.length+3:=λs=>by rw[u];simp[sS]
 have Y:∀(s:VS) (r:ae),Inv s.L->s.L.length<=1000000->(∀n,r.map (aaU (ay.cl n))=r)->Bk (dE H b z m s.L++some (.cells Z)::some (.cells (W s.p s.st))::some (.zone s.st.length)::r) b z m s.L:=λs r qS v I =>
  (h.to qS v).rV λn U=>by
   simp[sS] at U;simp only[abI,ab2,ay.cl,kZ,Wc s.p s.st n an,I n]
 have C:∀(s:VS) (r:ae),Inv s.L->s.L.length<=1000000->ak (H.length+3) (dE H b z m s.L++some (.cells Z)::some (.cells (W s.p s.st))::some (.zone s.st.length)::r)=t s:=λs r qS v=>by
  have:=(Y s [] qS v λn=>rfl).shut.back r;simp[sS] at this;rw[u];exact this
 have f:∀L',(dE H b z m L').length=H.length:=λL'=>sS _ _ _ _ _;have g0:∀(L':List Nd) (r:ae),(dE H b z m L'++r)[H.length]?=r[0]?:=λL' r=>oW (f L');have D:∀(L':List Nd) (r:ae) (k:Nat),(dE H b z m L'++r)[H.length+k]?=r[k]?:=λL' r k=>rW (f L') k;have K:∀(L':List Nd) (r:ae) (k:Nat) (x:Option ay),(dE H b z m L'++r).set (H.length+k) x=dE H b z m L'++r.set k x:=λL' r k x=>y6 (f L') k x;have s0:∀(L':List Nd) (r:ae) (x:Option ay),(dE H b z m L'++r).set H.length x=dE H b z m L'++r.set 0 x:=λL' r x=>tY (f L') x
 have ha:∀L' r,ak H.length (dE H b z m L'++r)=dE H b z m L':=λL' r=>h.back L' r;have M:(b<H.length+3)=True:=ah7;simp[FL] at I |-;refine aw I ?_;simp[y,JE,lZ,iG,R,<-J,X];have V1:=LY hi;refine aO 18 (λi=>[(0,.ptr b 0),(1,.vs (IL w) .no),(4,.ptr H.length 0),(6,.ptr (H.length+1) 0),(18,.int .i64 i)]) (λi=>t (kA L i)) (λ_=>True) ?_ ?_
 .have:=C (kA L 0) [] hi (by show L.length<=_;omega);simp[kA,nc] at this;simp[av,kA,M,this]
 .intro i he _;have a:=V1 i;have hg:=a.ext.len
  by_cases ah:i<18
  .have hB:=Y (kA L i) [] a.ext.inv an λn=>rfl;obtain⟨q,hq⟩:=bb (ma (kA L i).L i)
   have pj:kA L (i+1)=⟨q.2,(kA L i).p.set i q.1,(kA L i).st⟩:=by rw[Uj,E_,<-hq]
   have E:=zyq (G:=G) (i:Int) hB an;rw[BF,<-hq,(h.to a.ext.inv an).cA,h.mh] at E
   have e1:Ext (kA L i).L q.2 1:=by rw[hq];exact LQ a.ext.inv
   have l1:=e1.len;have N:=C ⟨q.2,(kA L i).p.set i q.1,(kA L i).st⟩ [] e1.inv (by show q.2.length<=_;omega);simp only at N;have wl:=l (kA L i).p (kA L i).st a.len;have ws:=Uf (i:=i) (p:=(kA L i).p) (st:=(kA L i).st) (tk:=.own d) q.1 a.len ah;rw[<-e,<-e] at ws;have PI:((i:Int)<18)=True:=ah7;have tb:=C (kA L i) [] a.ext.inv an;rw[u];simp(disch:=omega)[PI];refine cP E ?_
   simp(disch:=omega)[D,K,f,ah,PI,aB,wl,ws,av,M,N,pj,bA,-aab]
  .obtain rfl:i=18:=by omega
   have wt:=S (kA L 18).p (kA L 18).st a.len
   have hb:(W (kA L 18).p (kA L 18).st)[18]?=some (.vs (ints .i64 (kA L 18).st) (.own d)):=by rw[e,vcs,abp (by simp[a.len])];simp[a.len]
   have hc:=(aaa.1 hb).2;rw[u];simp[f,hc,l _ _ a.len];obtain⟨T,F⟩:∃T:Nat->VS,∀j,T j=aK L (w.take j):=⟨_,λ_=>rfl⟩
   have T0:T 0=kA L 18:=by rw[F,ade,aK,List.foldl_nil]
   have TN:T w.length=aK L w:=by rw[F,abd]
   have Tok:∀j,Fa L (T j) (18+3*32) 32:=λj=>by
    rw[F];have:=Cb hi (w.take j) λx o=>O x (abi o);exact⟨this.ext.mono (by simp;omega),this.len,acT this.st (by simp;omega)⟩
   have Ts:∀(j:Nat) (x:af),w[j]?=some x->T (j+1)=fP (T j) x:=λj x o=>by rw[F,F,abf,o];exact zBY _ _ _
   refine aO w.length (λj=>[(0,.ptr b 0),(4,.ptr H.length 0),(6,.ptr (H.length+1) 0),(28,.vs (IL w) .no),(29,.int .i64 w.length),(30,.int .i64 j)]) (λj=>t (T j)) (λ_=>True) ?_ ?_
   .have:=C (kA L 18) [] a.ext.inv an;simp[av,f,M,this,T0]
   intro j hj _;have c:=Tok j;have lT:=c.ext.len;have sT:=c.st
   by_cases Ac:j<w.length
   .obtain⟨x,o⟩:∃x,w[j]?=some x:=⟨_,lf Ac⟩;have lH:=aaA o;have LB:x.cs.length=4:=rfl;have lL:x.cs.take 4=x.cs:=rfl
    have gx:(IL w)[j]?=some x.cs:=by simp[o]
    have hh:=(aaa.1 gx).2;have jm:((j:Int)<(w.length:Int))=True:=ah7
    have hB:=Y (T j) [some (.cells x.cs)] c.ext.inv an λn=>by simp[ay.cl,af.cs,aZ,V.cl]
    have nR:(dE H b z m (T j).L++[some (.cells Z),some (.cells (W (T j).p (T j).st)),some (.zone (T j).st.length),some (.cells x.cs)])[d]?=some (some (.zone (T j).st.length)):=by rw[J,D];rfl
    have E:=zBX (G:=G) (T j) x d hB nR an c.ext.inv an c.len an (O x lH) (P x lH);obtain⟨s',v⟩:=bb (fP (T j) x);rw[<-v,<-e,<-e,(h.to c.ext.inv an).cA,h.mh,J,K] at E
    have jH:T (j+1)=s':=by rw[v];exact Ts j x o
    have g:=Tok (j+1);rw[jH] at g;have hl:=g.ext.len;have N:=C s' [some (.cells x.cs)] g.ext.inv an;rw[u];simp(disch:=omega)[jm,gx,LB,lL,D,K,f,leFn,l _ _ c.len,S _ _ c.len];refine cP E ?_;simp(disch:=omega)[D,K,f,l _ _ c.len,l _ _ g.len,Wd _ _ c.len,av,M,N,jH,bA,Ac,-aab]
   .obtain rfl:j=w.length:=by omega
    rw[u];have g:=c;rw[TN] at g;simp(disch:=omega)[TN,g0,D,s0,f,leFn,l _ _ g.len,S _ _ g.len,lZ,ew,ha,Wn]
def two(w:List Nat)(i:Nat):Nat:=w.getD i 0+w.getD (i+1) 0*4294967296
def mY(w:List Nat):Da:=⟨w.getD 0 0,w.getD 1 0,two w 2,(aaI 6).map λi=>two w (4+2*i)⟩
def PJ(d:Da)(a v:Nat):Da:=if a%4=0/\a<64 then mY ((iV d).set (a/4) v) else d
def zEA{w:List Nat}(a:w.length=16)(b:∀x∈w,x<4294967296):iV (mY w)=w:=by
 match w,a with
 | [h,i,j,k,l,m,n,o,p,q,c,r,d,e,f,g],_ =>
  simp only[aaG,aaZ,or_false,forall_eq_or_imp,forall_eq] at b;simp only[iV,mY,two,lo,hi,abv,List.range_zero,ace,abI,acf,ab9,abz,List.flatMap_nil,List.getD_cons_zero,abh,Nat.mul_zero,Nat.mul_one,Nat.reduceMul,Nat.reduceAdd,List.cons.injEq,and_true,true_and]
  and_intros<;>omega
def PK{w:List Nat}(e:w.length=16)(d:∀x∈w,x<4294967296):(mY w).ok:=by
 have a:∀i,w.getD i 0<4294967296:=by
  intro i;rw[aa2]
  cases h:w[i]? with
  | none=>decide
  | some z=>exact d z (aaA h)
 have b:∀i,two w i<18446744073709551616:=λi=>by
  have:=a i;have:=a (i+1);unfold two;omega
 refine⟨a 0,a 1,b 2,by simp[mY],λx c=>?_⟩;simp only[mY,abn] at c;obtain⟨i,_,rfl⟩:=c;exact b _
def zIr{l:List Nat}{i v n:Nat}(h:∀x∈l,x<n)(b:v<n):∀x∈l.set i v,x<n:=λx c=>by
 rcases acx c with a|a
 .exact h x a
 .rw[a];exact b
def qn:St:=⟨0,0,aR 16⟩
def Uk:qn.ok:=⟨ah9,ah9,by simp[qn],λw a=>by
 simp only[qn,aR,ab4] at a
 omega⟩
def zBZ:qn.cs=ax .u32 (aR 18):=rfl
def zGU[eE G][i:mO G][mZ G][jN G][pE G][q9 G][ug G](f:List af)(d:Da)(e:∀x∈f,x.k<4294967296)(a:du f=true)(hd:d.ok) :
  FP G 234 [FL f,DV d] (.bc [.int .u32 ((run d f qn).1:Nat),.int .i64 ((run d f qn).2:Nat)]):=by
 refine bw ug.ahP (aaf rfl) ?_
 have g:0<f.length:=by
  have:=SP a
  cases f with
  | nil=>exact absurd rfl this
  | cons=>simp
 have b:=zx8 (G:=G) f d e a hd _ 0 qn (aaF _) g Uk;have c:=hd.2.2.2.1;have h:=eA (k:=.u64) c;simp[SV,zBZ,FL,DV,Da.cs] at b;simp[FL,DV,Da.cs,c,h];refine aw b ?_;simp
def zB0[dT G][dy G][aE G][aD G][bQ G][cW G][lI G][uq G](f:List af)(d:Da)(X:f.length<=maxLen)(K:∀x∈f,x.k<4294967296)(j:du f=true)(hd:d.ok) :
  FP G 230 [FL f,DV d] (.bc [.int .u32 ((run d f qn).1:Nat),.int .i64 ((run d f qn).2:Nat),.int .i64 0]):=by
 refine bw uq.ahL (aaf rfl) ?_;have C:=Lb (G:=G) f X K;rw[j] at C;have L:=hd.2.2.2.1;have Y:=eA (k:=.u64) L
 have Z:0<f.length:=by
  have:=SP j
  cases f with
  | nil=>exact absurd rfl this
  | cons=>simp
 have vX:=Y4 d _ f qn (aaF _)
 have Tt:f.length<=4096:=by simp only[du,aae,decide_eq_true_eq] at j;exact j.1.1
 obtain⟨R,D⟩:=bb (run d f qn);rw[<-D] at vX |-;simp[FL] at C;simp[FL,DV,Da.cs];refine aw C ?_;simp
 refine u5 (λz:St×Nat×Nat=>f.length-z.2.1)
  (λz=>[(0,FL f),(3,.ptr 0 0),(7,.ptr 1 0),(8,.int .u32 0),(9,.int .i64 z.2.1),(10,.int .i64 z.2.2)])
  (λz=>[some (.cells d.cs),some (.cells z.1.cs)])
  (λz=>z.2.1<f.length/\z.1.ok/\(run d (f.drop z.2.1) z.1).1=R.1/\z.2.2+(run d (f.drop z.2.1) z.1).2=R.2) (qn,0,0) ?_ ?_
 .refine⟨⟨Z,Uk,by simp[D],by simp[D]⟩,?_,?_⟩
  .simp[av,FL]
  .simp[ak,Da.cs,zBZ]
 rintro⟨s,t,n⟩ ⟨l,e,a,b⟩;simp only at l e a b;have E:f[t]?=some f[t]:=aah l;have m:=sC l;have M:f[t]∈f:=aaD l;have N:=aaJ l;obtain⟨x,F⟩:=bb (f[t]);rw[<-F] at E m M N;have F:=F.symm;have y:=K x M;have o:x.cs=[.int .i64 x.op,.int .i64 x.jt,.int .i64 x.jf,.int .u32 x.k]:=rfl;have kq:=Ld j E;have O:=zL (G:=G) x;have P:=zDx (G:=G) s x e y;have p:=zx5 (G:=G) s x d e y hd
 have q:=e.2.2.1;have Q:=eA (k:=.u32) q;have hc:=CW x.k y;have S:=Gl e y hd;have H:=S.2.2.1;have sN:=eA (k:=.u32) H;have A:aC .i64 t 1=((t+1:Nat):Int):=bA an;have B:aC .i64 n 1=((n+1:Nat):Int):=bA an;rw[N,xN] at a b;simp[SV,IV,DV,o,St.cs,Da.cs] at O P p
 by_cases r:x.op=6
 .simp only[r,if_true] at a b;simp(disch:=omega)[FL,m,o,r,A,B,-aab];rw[<-a,<-b];simp
 have T:(x.op==6)=false:=aG r
 by_cases u:x.op=22
 .simp only[u,if_true] at a b;simp(disch:=omega)[FL,m,o,u,A,B,St.cs,-aab];rw[<-a,<-b];simp
 have U:(x.op==22)=false:=aG u
 have he:fW x.op=false:=by simp[fW,r,u]
 have c:=Ei j E (OE he s);simp only[r,u,if_false,abD] at a b
 by_cases g:x.op=5
 .have I:(x.op==5)=true:=by simp[g]
  have i:goes s x=x.k:=by simp[goes,g]
  have J:dJ s x d=(s,true):=by
   have:(bf 5).2.2=false:=by decide
   simp[dJ,ic,g,this]
  rw[i] at c a b;rw[J] at a b;simp only[if_true] at a b;have v:aC .i64 ((t+1:Nat):Int) (x.k:Int)=((t+1+x.k:Nat):Int):=qA an;simp(disch:=omega)[FL,m,o,T,U,I,hc,A,B,v,-aab];refine⟨(s,t+1+x.k,n+1),?_⟩;refine⟨by simp only;omega,⟨c,e,a,by simp only;omega⟩,?_,?_⟩
  .simp[av,-aab]
  .simp[ak,Da.cs,St.cs]
 have I:(x.op==5)=false:=aG g;simp(disch:=omega)[FL,m,o,T,U,I,A,B,-aab];refine aw O ?_;cases w:aX x.op
 .have i:goes s x=0:=by simp[goes,g,w]
  rw[i] at c a b;simp only[abU] at c a b;simp(disch:=omega)[q,Q,L,Y,St.cs,Da.cs,-aab];refine aw p ?_;cases V:(dJ s x d).2
  .rw[V] at a b;simp only[aau,if_false] at a b;simp[H,-aab];rw[<-a,<-b];simp
  .rw[V] at a b;simp only[if_true] at a b;simp(disch:=omega)[H,sN,q,-aab];refine⟨((dJ s x d).1,t+1,n+1),?_⟩;refine⟨by simp only;omega,⟨c,S,a,by simp only;omega⟩,?_,?_⟩
   .simp[av,-aab]
   .have AB:=Sc (k:=.u32) q;simp[ak,AB]
 obtain⟨b1,b2,b3,b4⟩:=kq w
 have J:dJ s x d=(s,true):=by
  rcases xJ w with h|h|h|h|h|h|h|h <;>
  .have:(bf x.op).2.2=false:=by rw[h];decide
   unfold dJ;rw[this];simp[ic,h]
 rw[J] at a b;simp only[if_true] at a b;simp(disch:=omega)[q,Q,St.cs,-aab];refine aw P ?_;cases W:bG s x
 .have i:goes s x=x.jf.toNat:=by simp[goes,g,w,W]
  rw[i] at c a b
  have v:aC .i64 ((t+1:Nat):Int) x.jf=(t+1+x.jf.toNat:Nat):=qq
  simp(disch:=omega)[v,-aab];refine⟨(s,t+1+x.jf.toNat,n+1),?_⟩;refine⟨by simp only;omega,⟨c,e,a,by simp only;omega⟩,?_,?_⟩
  .simp[av,-aab]
  .simp[ak,Da.cs]
 .have i:goes s x=x.jt.toNat:=by simp[goes,g,w,W]
  rw[i] at c a b
  have v:aC .i64 ((t+1:Nat):Int) x.jt=(t+1+x.jt.toNat:Nat):=qq
  simp(disch:=omega)[v,-aab];refine⟨(s,t+1+x.jt.toNat,n+1),?_⟩;refine⟨by simp only;omega,⟨c,e,a,by simp only;omega⟩,?_,?_⟩
  .simp[av,-aab]
  .simp[ak,Da.cs]
def zNt(a b c:V)(l:List V)(n:Nat):(a::b::c::l).take (3+n)=a::b::c::l.take n:=by rw[abT];rfl
def Gp(a b c:V)(l:List V)(n:Nat):(a::b::c::l).drop (3+n)=l.drop n:=by rw[abT];rfl
def zIs(b c:V)(l:List V)(n:Nat):(b::c::l).drop (3+n)=l.drop (n+1):=by rw[show 3+n=(n+1)+2 by omega];rfl
def zB1{w:List Nat}(b:∀x∈w,x<4294967296)(i:Nat):vA .u64 ((w.getD i 0:Nat):Int) (jz .u64 ((w.getD (i+1) 0:Nat):Int) 32)=((two w i:Nat):Int):=by
 have a:∀i,w.getD i 0<4294967296:=by
  intro i;rw[aa2]
  cases h:w[i]? with
  | none=>decide
  | some z=>exact b z (aaA h)
 exact zA5 _ _ (a i) (a (i+1))
def ZD:List V:=[.int .u32 0,.int .u32 0,.int .u64 0,.int .u64 0,.int .u64 0,.int .u64 0,.int .u64 0,.int .u64 0,.int .u64 0]
def HG(w:List Nat)(n:Nat)(a b c:Nat)(l:List Nat):ae:=[some (.cells (ax .u32 w)),some (.cells ZD),some (.cells [.int .i64 n]),some (.cells (.int .u32 (a:Int)::.int .u32 (b:Int)::.int .u64 (c:Int)::ax .u64 l))]
def zIt[dx G](w:List Nat)(n a b c:Nat)(l:List Nat)(f:w.length=16)(d:∀x∈w,x<4294967296)(u:n+1<16) :
  bE G (.F 231 [.ptr 0 0,.ptr 2 0] (HG w n a b c l) (.int .u64 (two w n:Nat)) (HG w (n+2) a b c l)):=by
 have g:=su .u32 w n an;have h:=su .u32 w (n+1) an
 have i:w.getD n 0=w[n]:=by simp[aa2,aah (show n<w.length by omega)]
 have j:w.getD (n+1) 0=w[n+1]:=by simp[aa2,aah (show n+1<w.length by omega)]
 have e:=zB1 d n;rw[i,j] at e;have v:=d _ (aaD (show n<w.length by omega));have y:=d _ (aaD (show n+1<w.length by omega));have k:=Ot w[n] an;have m:=Ot w[n+1] an;have o:aC .i64 n 1=((n+1:Nat):Int):=bA an;have p:aC .i64 n 2=((n+2:Nat):Int):=N0 (n:=2) an;have q:((n:Int)<16)=True:=bC an;have r:(((n+1:Nat):Int)<16)=True:=bC an;have s:(n+1<=16)=True:=aB an
 have t:(n+1+1<=16)=True:=aB an;have z:(n<=14)=True:=aB an;refine fg dx.ahM (aaf rfl) ?_;simp[HG,ZD,o,p,q,r,s,t,g,h,k,m,e,f,-aab]
def y7(w:List Nat)(i:Nat):List Nat:=(aaI 6).map λj=>if j<i then two w (4+2*j) else 0
def zoK(w:List Nat)(i:Nat):(y7 w i).length=6:=by simp[y7]
def zzY(w:List Nat){i:Nat}(hi:i<6):(y7 w i).set i (two w (4+2*i))=y7 w (i+1):=by
 apply ab6;intro j;rw[abg,zoK]
 by_cases h:i=j
 .subst h;simp[y7,hi]
 .rw[if_neg h]
  by_cases a:j<6
  .simp only[y7,abA,acn a,ab2]
   by_cases b:j<i
   .simp[b,show j<i+1 by omega]
   .simp[b,show¬j<i+1 by omega]
  .simp[y7,a]
def zGV(w:List Nat):y7 w 6=(mY w).args:=by simp only[y7,mY];apply ab0;intro j a;simp[aaK.1 a]
def zGW(w:List Nat):y7 w 0=aR 6:=by simp[y7,aR,abv]
def zIu[dx G](w:List Nat)(b:w.length=16)(c:∀x∈w,x<4294967296):FP G 232 [.agg (ax .u32 w)] (DV (mY w)):=by
 refine bw dx.ahN (aaf rfl) ?_;have m:=eA (k:=.u32) b
 have n:(ax .u32 w).take 1=[.int .u32 (w[0]:Nat)]:=by have:=su .u32 w 0 an;rwa[acq] at this
 have o:(ax .u32 w).tail.take 1=[.int .u32 (w[1]:Nat)]:=by have:=su .u32 w 1 an;rwa[acw] at this
 have p:=su .u32 w 2 an;have q:=su .u32 w 3 an
 have d:∀i (h:i<16),w.getD i 0=w[i]:=λi h=>by simp[aa2,aah (show i<w.length by omega)]
 have f:=zB1 c 2;rw[d 2 an,d 3 an] at f;have z:=c _ (aaD (show 2<w.length by omega));have A:=c _ (aaD (show 3<w.length by omega));have r:=Ot w[2] an;have s:=Ot w[3] an;simp[n,o,p,q,r,s,f,b]
 refine aO 6 (λi=>[(2,.ptr 1 0),(4,.fn 231 [.ptr 0 0,.ptr 2 0]),(5,.ptr 3 0),(21,.int .i64 i)])
  (λi=>HG w (4+2*i) w[0] w[1] (two w 2) (y7 w i)) (λ_=>True) ?_ ?_
 .have e:=zJ6;simp[av,ak,HG,ZD,zGW,e]
 intro i hi _
 by_cases g:i<6
 .have j:=zIt (G:=G) w (4+2*i) w[0] w[1] (two w 2) (y7 w i) b c an;have t:=zoK w i;have l:=wQ .u64 (y7 w i) i (two w (4+2*i)) an;rw[zzY w g] at l;simp[HG,ZD,-aab,-aa7] at j;simp(disch:=omega)[bC,HG,ZD,-aab,-aa7];refine kW j ir ?_;simp(disch:=omega)[ak,zNt,zIs,t,l,bC,aB,bA,g,av,show 4+2*(i+1)=4+2*i+2 from an,-aab,-aa7]
 .have u:i=6:=an
  subst u;have v:=zGV w;have a:=zoK w 6;have y:=eA (k:=.u64) a;have B:=d 0 an;have C:=d 1 an;simp[HG,ZD,DV,Da.cs,a,y];rw[<-v];simp[mY,b]
def zGX[bQ G][dx G](d:Da)(n v:Nat)(hd:d.ok)(i:n<4294967296)(o:v<4294967296):FP G 233 [DV d,.int .u32 n,.int .u32 v] (DV (PJ d n v)):=by
 refine bw dx.ahO (aaf rfl) ?_;have j:=zvO (G:=G) d hd;have l:=eA (k:=.u64) hd.2.2.2.1;have c:=hd.2.2.2.1;simp[DV,Da.cs] at j |-;refine aw (zvP n i) ?_
 by_cases h:n%4=0/\n<64
 .have p:kF .u32 (n:Int) 4=((n/4:Nat):Int):=X0 (b:=4) i ah9;have e:=As c;have q:=eA (k:=.u32) e;have r:=wQ .u32 (iV d) (n/4) v an
  have f:((iV d).set (n/4) v).length=16:=by rw[aaw];exact e
  have g:=eA (k:=.u32) f;have m:=zIu (G:=G) ((iV d).set (n/4) v) f (zIr (YK hd) o)
  have a:(mY ((iV d).set (n/4) v)).args.length=6:=by simp[mY]
  have s:=eA (k:=.u64) a;simp[DV,Da.cs] at m;simp[h,c,l,PJ];refine aw j ?_;simp(disch:=omega)[p,bC,aB,e,r,f,g,-abF];refine aw m ?_;simp[a,s]
 .simp[h,PJ,c,l]
def cr(d:Da):List af->St->St×Nat
 | [],s=>(s,0)
 | x::w,s=>if(dJ s x d).2 then((cr d w (dJ s x d).1).1,(cr d w (dJ s x d).1).2+1) else(s,0)
def G1(d:Da):∀(w:List af) (s:St),(cr d w s).2<=w.length
 | [],s=>adl _
 | x::w,s=>by
  have:=G1 d w (dJ s x d).1;simp only[cr,aap];split
  .simp only;omega
  .simp
def G2{d:Da}(hd:d.ok):∀(w:List af) (s:St),s.ok->(∀x∈w,x.k<4294967296)->(cr d w s).1.ok
 | [],s,a,_=>a
 | x::w,s,a,b=>by
  have:=G2 hd w (dJ s x d).1 (Gl a (b x ir) hd) (λy c=>b y (by simp[c]));simp only[cr];split
  .exact this
  .exact a
def eY(s:St)(d:Da):List Nat:=s.a::s.x::(s.m++iV d)
def wq(v:List Nat):St:=⟨v.getD 0 0,v.getD 1 0,(v.drop 2).take 16⟩
def zqM{s:St}{d:Da}(a:s.ok)(hd:d.ok):(eY s d).length=34:=by simp[eY,a.2.2.1,As hd.2.2.2.1]
def zyF{s:St}{d:Da}(b:s.ok)(hd:d.ok):∀x∈eY s d,x<4294967296:=by
 intro x a;simp only[eY,aaG,aaE] at a
 rcases a with rfl|rfl|a|a
 .exact b.1
 .exact b.2.1
 .exact b.2.2.2 x a
 .exact YK hd x a
def uT(v:List Nat)(i:Nat):List Nat:=(v.drop 18).take i++aR (16-i)
def Um{v:List Nat}(a:v.length=34){i:Nat}(hi:i<=16):(uT v i).length=16:=by simp[uT,a];omega
def zwv{v:List Nat}(b:∀x∈v,x<4294967296)(i:Nat):∀x∈uT v i,x<4294967296:=by
 intro x a;simp only[uT,aaE,aR,ab4] at a
 rcases a with a|a
 .exact b x (aa6 (abi a))
 .omega
def zGY{v:List Nat}(c:v.length=34){i:Nat}(hi:i<16):(uT v i).set i (v[18+i]' an)=uT v (i+1):=by
 apply ab6;intro j
 have d:∀i,i<=16->∀j,(uT v i)[j]?=if j<i then v[18+j]? else if j<16 then some 0 else none:=by
  intro i hi j;rw[uT,List.getElem?_append,aav,abG,c,abJ,abc]
  by_cases a:j<i
  .rw[if_pos an,if_pos a,if_pos a]
  .rw[if_neg an,if_neg a]
   by_cases b:j<16
   .rw[if_pos b];simp[aR,acA];omega
   .rw[if_neg b];simp[aR,acA];omega
 rw[abg,Um c an,d i an,d (i+1) an]
 by_cases e:i=j
 .subst e;rw[if_pos rfl,if_pos hi,if_pos an,aah an]
 .rw[if_neg e]
  by_cases a:j<i
  .rw[if_pos a,if_pos an]
  .rw[if_neg a]
   by_cases b:j<i+1
   .omega
   .rw[if_neg b]
def zEB{v:List Nat}(a:v.length=34)(b:∀x∈v,x<4294967296){i:Nat}(hi:i<16):PJ (mY (uT v i)) (4*i) (v[18+i]' an)=mY (uT v (i+1)):=by rw[PJ,if_pos ⟨an,an⟩,zEA (Um a an) (zwv b i),show 4*i/4=i by omega,zGY a hi]
def zIv{v:List Nat}(a:v.length=34):uT v 16=v.drop 18:=by rw[uT,show aR (16-16)=[] from rfl,abw,aaj (by simp[a])]
def zNu(v:List Nat):uT v 0=aR 16:=by simp[uT]
def zB2{s:St}{d:Da}(a:s.ok):(eY s d).drop 18=iV d:=by simp only[eY,abH];rw[ab1 a.2.2.1]
def zww{v:List Nat}(c:v.length=34)(a:∀x∈v,x<4294967296):(wq v).ok:=by
 have b:∀i,v.getD i 0<4294967296:=by
  intro i;rw[aa2]
  cases h:v[i]? with
  | none=>decide
  | some z=>exact a z (aaA h)
 exact⟨b 0,b 1,by simp[wq,c],λx d=>a x (aa6 (abi d))⟩
def zuk[dT G][dy G][aE G][aD G][bQ G][cW G][aQ G][cY G](w:List af)(s:St)(d:Da)(F:w.length<=maxLen)(g:∀x∈w,x.k<4294967296)(h:s.ok)(hd:d.ok)(j:a_ w=true) :
  FP G 292 [FL w,SV s,DV d] (.bc [SV (cr d w s).1,.int .i64 ((cr d w s).2:Nat)]):=by
 refine bw cY.aeZ (aaf rfl) ?_;have l:=Ca (G:=G) w F g;rw[j] at l
 have N:w.length<=32:=by simp only[a_,aae,decide_eq_true_eq] at j;exact j.1
 have H:=h.2.2.1;have O:=eA (k:=.u32) H;have v:=hd.2.2.2.1;have I:=eA (k:=.u64) v;obtain⟨R,m⟩:=bb (cr d w s);have J:=G1 d w s;have n:=G2 hd w s h g;rw[<-m] at J n |-;simp[FL] at l;simp[FL,SV,DV,St.cs,Da.cs];refine aw l ?_;simp
 refine u5 (λz:St×Nat=>w.length-z.2) (λz=>[(0,FL w),(4,.ptr 0 0),(5,.ptr 1 0),(6,.ptr 2 0),(16,FL w),(17,.int .i64 w.length),(18,.int .i64 z.2)])
  (λz=>[some (.cells z.1.cs),some (.cells d.cs),some (.cells (ax .u32 (aR 18)))])
  (λz=>z.2<=w.length/\z.1.ok/\(cr d (w.drop z.2) z.1).1=R.1/\z.2+(cr d (w.drop z.2) z.1).2=R.2) (s,0) ?_ ?_
 .refine⟨⟨adl _,h,by simp[m],by simp[m]⟩,?_,?_⟩
  .simp[av,FL]
  .simp[ak,Da.cs,St.cs]
 rintro⟨t,i⟩ ⟨hi,f,a,b⟩;simp only at hi f a b;have c:=f.2.2.1;have o:=eA (k:=.u32) c
 by_cases p:i<w.length
 .obtain⟨x,y⟩:=bb (w[i])
  have P:w[i]?=some x:=by rw[aah p,y]
  have q:=y.symm;have A:=aaJ p;rw[q] at A;have B:=g x (q▸aaD p);have C:x.cs=[.int .i64 x.op,.int .i64 x.jt,.int .i64 x.jf,.int .u32 x.k]:=rfl;have e:=zx5 (G:=G) t x d f B hd;have D:=Gl f B hd;have r:=D.2.2.1;have K:=eA (k:=.u32) r;have L:=Sc (k:=.u32) c;have u:ax .u32 (aR 18)=.int .u32 0::.int .u32 0::ax .u32 (aR 16):=rfl;rw[A] at a b;simp only[cr] at a b;simp[SV,IV,DV,C,St.cs,Da.cs] at e
  simp(disch:=omega)[bC,FL,q,C,St.cs,Da.cs,c,o,v,I,-aab];refine aw e ?_;cases E:(dJ t x d).2
  .rw[E] at a b;simp only[aau,if_false] at a b;simp[c,o,r,u,-aab];rw[<-a,<-b];simp
  .rw[E] at a b;simp only[if_true] at a b;simp(disch:=omega)[c,r,K,L,bA,-aab];refine⟨((dJ t x d).1,i+1),by simp only;omega,⟨by simp only;omega,D,a,by simp only;omega⟩,?_,?_⟩
   .simp[av,-aab]
   .simp[ak]
 .have M:i=w.length:=an
  subst M;rw[List.drop_length] at a b;simp only[cr] at a b;have u:ax .u32 (aR 18)=.int .u32 0::.int .u32 0::ax .u32 (aR 16):=rfl;simp[FL,St.cs,Da.cs,c,o,u];rw[<-a,<-b];simp
def zyG(l:List af):(IL l=[])=(l=[]):=propext (Si l)
def rX(s:St)(d:Da)(i:Nat):List Nat:=s.a::s.x::(s.m++((iV d).take i++aR (16-i)))
def zqN{s:St}{d:Da}(a:s.ok)(hd:d.ok){i:Nat}(hi:i<=16):(rX s d i).length=34:=by simp[rX,a.2.2.1,As hd.2.2.2.1];omega
def zs2{s:St}{d:Da}(hd:d.ok):rX s d 16=eY s d:=by rw[rX,show aR (16-16)=[] from rfl,abw,aaj (by rw[As hd.2.2.2.1];exact aaF _),eY]
def zEC{s:St}{d:Da}(a:s.ok)(hd:d.ok){i:Nat}(hi:i<16):(rX s d i).set (18+i) ((iV d).getD i 0)=rX s d (i+1):=by
 have f:=As hd.2.2.2.1;have b:=a.2.2.1
 have c:(iV d).getD i 0=(iV d)[i]'(by omega):=by simp[aa2,aah (show i<(iV d).length by omega)]
 rw[c]
 have e:18+i=(16+i)+1+1:=an
 simp only[rX,e,acU]
 congr 2
 rw[abV _ _ an,b,show 16+i-16=i by omega]
 congr 1
 rw[abV _ _ (by rw[aav];omega),aav,acD an,adg,aca an,aaq]
 congr 1
 rw[show 16-i=(16-(i+1))+1 by omega];rfl
def zoL[bQ G][cZ G](s:St)(d:Da)(b:s.ok)(hd:d.ok):FP G 293 [SV s,DV d] (.agg (ax .u32 (eY s d))):=by
 refine bw cZ.ae0 (aaf rfl) ?_;have h:=b.2.2.1;have p:=eA (k:=.u32) h;have j:=hd.2.2.2.1;have q:=eA (k:=.u64) j;have n:ax .u32 (aR 34)=.int .u32 0::.int .u32 0::ax .u32 (aR 32):=rfl;have r:(ax .u32 (aR 32)).drop 16=ax .u32 (aR 16):=rfl
 have t:rX s d 0=s.a::s.x::(s.m++aR 16):=by simp[rX]
 have u:∀l m:List Nat,ax .u32 (l++m)=ax .u32 l++ax .u32 m:=λl m=>by simp[ax]
 simp[SV,DV,St.cs,Da.cs,n,h,p,r]
 refine aO 16 (λi=>[(3,.ptr 1 0),(4,.ptr 2 0),(5,.ptr 3 0),(17,.int .i64 i)])
  (λi=>[some (.cells s.cs),some (.cells d.cs),some (.cells (ax .u32 (aR 34))),some (.cells (ax .u32 (rX s d i)))]) (λ_=>True) ?_ ?_
 .have v:aZ 4 (ax .u32 s.m++ax .u32 (aR 16))=ax .u32 (s.m++aR 16):=by rw[<-u];simp
  simp[av,ak,St.cs,Da.cs,t,n,v];rfl
 intro i hi _
 by_cases o:i<16
 .have c:=zx4 (G:=G) d (4*i) hd an
  have w:pO d (4*i)=((iV d).getD i 0,true):=by rw[pO,if_pos ⟨an,an⟩,show 4*i/4=i by omega]
  rw[w] at c;have e:=zqN b hd hi;have f:=wQ .u32 (rX s d i) (18+i) ((iV d).getD i 0) an;rw[zEC b hd o] at f;obtain⟨x,y⟩:=bb ((iV d).getD i 0);rw[<-y] at f c
  have z:aC .i64 18 (i:Int)=((18+i:Nat):Int):=by rw[show(18:Int)=((18:Nat):Int) from rfl];exact qA an
  have A:dS .i64 4 (i:Int)=((4*i:Nat):Int):=by unfold dS;rw[show(4:Int)*(i:Int)=((4*i:Nat):Int) by omega];exact IntWalk.i64_in _ ⟨an,an⟩
  have B:fc .u32 ((4*i:Nat):Int)=((4*i:Nat):Int):=by unfold fc;exact IntWalk.u32_in _ ⟨an,an⟩
  simp[DV,Da.cs,-aa7] at c;simp(disch:=omega)[bC,z,A,B,Da.cs,j,q,-aab,-aa7];refine aw c ?_;simp(disch:=omega)[bC,aB,e,f,o,bA,av,ak,St.cs,-aab,-aa7]
 .have C:i=16:=an
  subst C;have e:=zqM b hd;have D:=eA (k:=.u32) e;have g:=zs2 (s:=s) hd;simp[g,e,D]
def zxD[bQ G][dx G][bY G](v:List Nat)(b:v.length=34)(g:∀x∈v,x<4294967296):FP G 294 [.agg (ax .u32 v)] (.bc [SV (wq v),DV (mY (v.drop 18))]):=by
 refine bw bY.ae1 (aaf rfl) ?_;have O:=eA (k:=.u32) b;obtain⟨a,e⟩:=bb (v[0]);obtain⟨x,f⟩:=bb (v[1])
 have C:(ax .u32 v).take 1=[.int .u32 (a:Nat)]:=by have:=su .u32 v 0 an;rwa[acq,<-e] at this
 have E:(ax .u32 v).tail.take 1=[.int .u32 (x:Nat)]:=by have:=su .u32 v 1 an;rwa[acw,<-f] at this
 obtain⟨m,j⟩:=bb ((v.drop 2).take 16)
 have l:m.length=16:=by rw[j];simp[b]
 have F:((ax .u32 v).drop 2).take 16=ax .u32 m:=by rw[j];simp[ax,List.map_drop,adf]
 have t:=eA (k:=.u32) l
 have n:wq v=⟨a,x,m⟩:=by rw[e,f,j];simp[wq,aa2,aah (show 0<v.length by omega),aah (show 1<v.length by omega)]
 have o:ax .u32 (aR 18)=.int .u32 0::.int .u32 0::ax .u32 (aR 16):=rfl;have H:(ax .u32 (aR 16)).drop 16=[]:=rfl
 have I:mY (uT v 0)=⟨0,0,0,aR 6⟩:=by rw[zNu];rfl
 have p:=zJ6;simp[b,C,E,F,o,H,l,t]
 refine aO 16 (λi=>[(1,.ptr 0 0),(2,.ptr 1 0),(3,.ptr 2 0),(4,.ptr 3 0),(5,.ptr 4 0),(16,.int .i64 i)])
  (λi=>[some (.cells (ax .u32 v)),some (.cells (ax .u32 (aR 18))),some (.cells ZD),some (.cells (St.cs ⟨a,x,m⟩)),some (.cells (mY (uT v i)).cs)]) (λ_=>True) ?_ ?_
 .simp[av,ak,St.cs,Da.cs,I,o,p,ZD]
 intro i hi _;have u:=PK (Um b hi) (zwv g i);have c:=u.2.2.2.1;have h:=eA (k:=.u64) c
 by_cases w:i<16
 .have d:=zGX (G:=G) (mY (uT v i)) (4*i) (v[18+i]' an) u an (g _ (aaD _));rw[zEB b g w] at d;have q:=PK (Um b (show i+1<=16 by omega)) (zwv g (i+1));have r:=q.2.2.2.1;have s:=eA (k:=.u64) r;have z:=su .u32 v (18+i) an;generalize mY (uT v i)=D at d c h;obtain⟨A,B⟩:=bb (mY (uT v (i+1)));rw[<-B] at d r s;obtain⟨y,J⟩:=bb (v[18+i]'(by omega))
  rw[<-J] at d z
  have K:aC .i64 18 (i:Int)=((18+i:Nat):Int):=by rw[show(18:Int)=((18:Nat):Int) from rfl];exact qA an
  have L:dS .i64 4 (i:Int)=((4*i:Nat):Int):=by unfold dS;rw[show(4:Int)*(i:Int)=((4*i:Nat):Int) by omega];exact IntWalk.i64_in _ ⟨an,an⟩
  have M:fc .u32 ((4*i:Nat):Int)=((4*i:Nat):Int):=by unfold fc;exact IntWalk.u32_in _ ⟨an,an⟩
  simp[DV,Da.cs,-aa7] at d;simp(disch:=omega)[bC,aB,K,L,M,Da.cs,c,h,b,z,-aab,-aa7];refine aw d ?_;simp(disch:=omega)[w,bA,av,ak,St.cs,ZD,c,r,<-B,Sc (k:=.u64) c,-aab,-aa7]
 .have N:i=16:=an
  subst N;rw[zIv b] at c h |-;simp[St.cs,Da.cs,ZD,c,h,l,t,o,n,SV,DV]
variable {L L':List Nd} {v:List Nat}
def zwx{n:Nat}(h:n<L.length):cE L (n:Int)=true:=by simp[cE];exact h
def LZ{k:Nat}{x:Int}(e:Ext L L' k)(h:cE L x=true):cE L' x=true/\dq v L' x=dq v L x:=by
 obtain⟨a,b⟩:0<=x/\x<L.length:=by simpa[cE] using h
 obtain⟨n,rfl⟩:=aa1 a;have:=e.pre.length_le;exact⟨zwx an,LV e an⟩
def wm.has{q:Int×List Nd}{o:Option Nat}(h:wm v q o):cE q.2 q.1=true/\dq v q.2 q.1=o:=by obtain⟨n,a,b,c⟩:=h;rw[a];exact⟨zwx b,c⟩
def pt(t:St):List Nat:=t.a::t.x::t.m
structure PV (v:List Nat) (L:List Nd) (p:List Int) (t:St):Prop where
 len:p.length=18
 val:∀i,i<18->cE L (p.getD i 0)=true/\dq v L (p.getD i 0)=some ((pt t).getD i 0)
def zIw{t:St}(h:t.ok):(pt t).length=18:=by simp[pt,h.2.2.1]
def PV.set{p:List Int}{t a:St}{k i n:Nat}{x:Int}(h:PV v L p t)(e:Ext L L' k)(c:cE L' x=true)(d:dq v L' x=some n)(hi:i<18)(f:(pt t).length=18)(g:pt a=(pt t).set i n):PV v L' (p.set i x) a:=by
 refine⟨by rw[aaw];exact h.len,λj l=>?_⟩;rw[g,aak,aak,abg,abg]
 by_cases b:i=j
 .subst b;simp only[if_true,h.len,f,hi,ac3];exact⟨c,d⟩
 .simp only[b,if_false,<-aak];obtain⟨m,o⟩:=h.val j l;obtain⟨q,r⟩:=LZ (v:=v) e m;exact⟨q,by rw[r,o]⟩
def PV.same{p:List Int}{t:St}{k:Nat}(h:PV v L p t)(e:Ext L L' k):PV v L' p t :=
 ⟨h.len,λj a=>by obtain⟨b,c⟩:=h.val j a;obtain⟨d,f⟩:=LZ (v:=v) e b;exact⟨d,by rw[f,c]⟩⟩
def zrU{op:Int}(h:(bf op).2.2=true):(cC (bf op).1 0 1).2=true:=by
 unfold bf at h |-;split at h
 .rename_i a;rw[if_pos a];simp only[aaG,aaZ,or_false] at a
  rcases a with rfl|rfl|rfl|rfl|rfl|rfl|rfl|rfl|rfl<;>decide
 .rename_i b;rw[if_neg b];split at h
  .rename_i a;rw[if_pos a];simp only[aaG,aaZ,or_false] at a
   rcases a with rfl|rfl|rfl|rfl|rfl|rfl|rfl|rfl|rfl<;>decide
  .cases h
def zED{s:VS}{t:St}{I:St}{d:Da}{x:af}(hi:Inv s.L)(h:PV (eY I d) s.L s.p t)(P:I.ok)(hd:d.ok)(Y:t.ok)(Z:x.k<4294967296)(J:mX x=true)(K:(dJ t x d).2=true) :
  PV (eY I d) (fP s x).L (fP s x).p (dJ t x d).1:=by
 have E:=zqM P hd;have M:=zyF P hd;obtain⟨v,F⟩:=bb (eY I d)
 have Q:∀j,j<16->v[18+j]?.getD 0=(iV d).getD j 0:=λj hj=>by
  have:=zB2 (d:=d) P;rw[<-F] at this;rw[aak,<-this,abc]
 rw[<-F] at h E M |-;have hl:=zIw Y
 have G:∀(q:Int×List Nd) (n:Nat),wm v q (some n)->∀(i k:Nat) (w:St),Ext s.L q.2 k->i<18->pt w=(pt t).set i n->PV v q.2 (s.p.set i q.1) w:=λq n R i k w e S T=>by
  obtain⟨m,b⟩:=R.has;exact h.set e m b S hl T
 have C:∀(i j:Nat) (w:St),i<18->j<18->pt w=(pt t).set i ((pt t).getD j 0)->PV v s.L (s.p.set i (s.p.getD j 0)) w:=λi j w S hj T=>by
  obtain⟨m,b⟩:=h.val j hj;exact h.set (.refl hi 0) m b S hl T
 have U:wm v (bj s.L (fe (x.k::aR 34))) (some x.k):=zuh hi E Z;have V:Ext s.L (bj s.L (fe (x.k::aR 34))).2 1:=(wX hi (z_ ir (Dq Z) _)).1
 have N:x.op=96\/x.op=97\/x.op=2\/x.op=3->x.k<16:=λu=>by
  simp only[mX,aae] at J;have b:=J.2
  rcases u with u|u|u|u<;>simp[kJ,u] at b<;>exact b
 have W:x.op=32->x.k%4=0/\x.k<64:=λu=>by
  simp only[mX,aae] at J;have b:=J.2;simp[kJ,u] at b;exact b
 cases D:(bf x.op).2.2 with
 | true =>
  rw[dJ,if_pos D] at K;simp only at K
  have z:(dJ t x d).1={ t with a:=(kj t x).1 }:=by rw[dJ,if_pos D];simp only[K,if_true]
  rw[z,fP,if_pos D]
  have ju:Ext s.L (uQ s x).2 1/\cE (uQ s x).2 (uQ s x).1=true/\dq v (uQ s x).2 (uQ s x).1=some (jq t x):=by
   rw[uQ,jq]
   cases hb:(bf x.op).2.1 with
   | true =>
    simp only[if_true];obtain⟨m,b⟩:=h.val 1 an
    exact⟨.refl hi 1,m,b⟩
   | false =>
    simp only[aau,if_false];obtain⟨m,b⟩:=U.has;exact⟨V,m,b⟩
  obtain⟨O,b1,b2⟩:=ju;obtain⟨p1,p2⟩:=h.val 0 an;obtain⟨p3,p4⟩:=LZ (v:=v) O p1;have r:=zyD (v:=v) (kind:=(bf x.op).1) (x:=s.p.getD 0 0) (y:=(uQ s x).1) O.inv E M (zrU D) p3 b1;rw[p4,p2,b2] at r;have ha:(pt t).getD 0 0=t.a:=rfl;have R:gL (bf x.op).1 (some t.a) (some (jq t x))=some (kj t x).1:=Ue K;rw[ha,R] at r
  exact G _ _ r 0 3 _ (O.trans (zsX O.inv)) an rfl
 | false =>
  have z:(dJ t x d).1=ic t x d:=by rw[dJ,if_neg (by simp[D])]
  rw[z,fP,if_neg (by simp[D]),ic]
  by_cases c:x.op=0
  .simp only[c,if_true];exact G _ _ U 0 1 _ V an rfl
  by_cases f:x.op=1
  .simp only[f,if_true];exact G _ _ U 1 1 _ V an rfl
  by_cases g:x.op=32
  .obtain⟨k4,X⟩:=W g;have r:=zyE (v:=v) (i:=((18+x.k/4:Nat):Int)) hi E M an an;rw[abx,Q _ an] at r
   have hw:(pO d x.k).1=(iV d).getD (x.k/4) 0:=by rw[pO,if_pos ⟨k4,X⟩]
   rw[if_neg c,if_neg f,if_pos g,if_neg c,if_neg f,if_pos g]
   have e:((18+x.k/4:Nat):Int)=18+((x.k/4:Nat):Int):=an
   rw[e] at r;exact G _ _ r 0 1 _ (LQ hi) an (by rw[hw];rfl)
  by_cases l:x.op=96
  .have A:=N (.inl l);rw[if_neg c,if_neg f,if_neg g,if_pos l,if_neg c,if_neg f,if_neg g,if_pos l];exact C 0 (2+x.k) _ an an (by rw[yN,if_pos A];simp only[pt,acV];rw[show 2+x.k=x.k+1+1 by omega,abh,abh])
  by_cases o:x.op=97
  .have A:=N (.inr (.inl o));rw[if_neg c,if_neg f,if_neg g,if_neg l,if_pos o,if_neg c,if_neg f,if_neg g,if_neg l,if_pos o];exact C 1 (2+x.k) _ an an (by rw[yN,if_pos A];simp only[pt,acU,acV];rw[show 2+x.k=x.k+1+1 by omega,abh,abh])
  by_cases B:x.op=2
  .have A:=N (.inr (.inr (.inl B)));rw[if_neg c,if_neg f,if_neg g,if_neg l,if_neg o,if_pos B,if_neg c,if_neg f,if_neg g,if_neg l,if_neg o,if_pos B];exact C (2+x.k) 0 _ an an (by rw[vi,if_pos A,show 2+x.k=x.k+1+1 by omega];rfl)
  by_cases H:x.op=3
  .have A:=N (.inr (.inr (.inr H)));rw[if_neg c,if_neg f,if_neg g,if_neg l,if_neg o,if_neg B,if_pos H,if_neg c,if_neg f,if_neg g,if_neg l,if_neg o,if_neg B,if_pos H];exact C (2+x.k) 1 _ an an (by rw[vi,if_pos A,show 2+x.k=x.k+1+1 by omega];rfl)
  rw[if_neg c,if_neg f,if_neg g,if_neg l,if_neg o,if_neg B,if_neg H,if_neg c,if_neg f,if_neg g,if_neg l,if_neg o,if_neg B,if_neg H]
  by_cases uS:x.op=132
  .obtain⟨p1,p2⟩:=h.val 0 an;have r:=zGT (v:=v) hi E M p1;rw[p2] at r;simp only[uS,if_true];exact G _ (oJ t.a) r 0 3 _ (zsY hi) an rfl
  by_cases o7:x.op=7
  .simp only[o7,if_true];have m:=C 1 0 { t with x:=t.a } an an rfl;obtain⟨p1,p2⟩:=h.val 0 an;exact m.set (.refl hi 0) p1 p2 an (by simp[pt,Y.2.2.1]) rfl
  by_cases x9:x.op=135
  .simp only[x9,if_true];exact C 0 1 _ an an rfl
  simp only[uS,o7,x9,if_false];exact h
def kp(w:List af)(n:Nat):Nat:=(w.take n).countP λx=>decide (x.op=60)
def L3(x:af)(w:List af)(n:Nat):kp (x::w) (n+1)=(if x.op=60 then 1 else 0)+kp w n:=by simp only[kp,acQ,ac4,decide_eq_true_eq];omega
def zqO{op:Int}:(bf op).2.1=true/\(bf op).1=52↔op=60:=by
 constructor
 .rintro⟨a,b⟩;unfold bf at a b;split at a
  .cases a
  .rename_i c;rw[if_neg c] at b;split at a
   .rename_i d;rw[if_pos d] at b;simp only at b;omega
   .cases a
 .rintro rfl;decide
def zGZ:bf 60=(52,true,true):=by decide
def zs3(s:VS)(x:af):(fP s x).st=s.st++(if x.op=60 then [s.p.getD 1 0] else []):=by
 by_cases h:x.op=60
 .have a:(bf x.op).2.2=true:=by rw[h];decide
  rw[fP,if_pos a,if_pos h];simp only[zqO.2 h,and_self,if_true]
 .rw[if_neg h,abw,fP];split
  .simp only[show¬((bf x.op).2.1=true/\(bf x.op).1=52) from λb=>h (zqO.1 b),if_false]
  .repeat (first|rfl|split)
def zB3{kind:Int}{a b:Nat}(d:(cC kind 0 1).2=true)(h:(cC kind a b).2=false):kind=52/\b=0:=by
 unfold cC at d h
 by_cases e:kind=52
 .subst e;refine⟨rfl,?_⟩
  by_cases c:b=0
  .exact c
  .simp[c] at h
 .exfalso
  repeat' split at h
  all_goals first|(cases h;done)|skip
  all_goals simp_all
def zwy{t:St}{x:af}{d:Da}(e:mX x=true)(h:(dJ t x d).2=false):x.op=60/\t.x=0:=by
 rw[dJ] at h;split at h
 .rename_i f;simp only at h;obtain⟨b,c⟩:=zB3 (zrU f) h
  cases a:(bf x.op).2.1 with
  | true =>
   rw[jq,if_pos a] at c
   exact⟨zqO.1 ⟨a,b⟩,c⟩
  | false =>
   exfalso;rw[jq,a,if_neg ir] at c
   have:x.op=52:=by
    unfold bf at b a;split at b
    .exact b
    .rename_i g;rw[if_neg g] at a;split at b
     .rename_i i;rw[if_pos i] at a;cases a
     .cases b
   simp only[mX,kJ,this,aae] at e;simp at e;omega
 .cases h
def zIx{t:St}{x:af}{d:Da}(h:(dJ t x d).2=true)(a:x.op=60):t.x≠0:=by intro b;rw[dJ,if_pos (by rw[a];decide)] at h;simp only[kj,jq,a,zGZ,if_true,b] at h;simp[cC] at h
def zul{s:VS}{x:af}(hi:Inv s.L)(a:s.p.length=18)(b:x.k<4294967296):Ext s.L (fP s x).L 3/\(fP s x).p.length=18:=by have:=zwt (L:=s.L) (s:=s) (k:=0) (n:=s.st.length) ⟨.refl hi 0,a,aaF _⟩ b;exact⟨this.ext,this.len⟩
def zwz:∀(w:List af) {s:VS},Inv s.L->s.p.length=18->(∀x∈w,x.k<4294967296)->Ext s.L (w.foldl fP s).L (3*w.length)/\(w.foldl fP s).p.length=18
 | [],s,hi,a,_=>⟨.refl hi _,a⟩
 | x::w,s,hi,a,b=>by
  obtain⟨c,d⟩:=zul hi a (b x ir);obtain⟨e,f⟩:=zwz w (s:=fP s x) c.inv d λy g=>b y (by simp[g]);exact⟨(c.trans e).mono (by simp;omega),f⟩
def zyH:∀(w:List af) (s:VS),∃a,(w.foldl fP s).st=s.st++a/\a.length=kp w w.length
 | [],s=>⟨[],ir,by simp[kp]⟩
 | x::w,s=>by
  obtain⟨a,b,c⟩:=zyH w (fP s x);refine⟨(if x.op=60 then [s.p.getD 1 0] else [])++a,by rw[ac7,b,zs3,aaq],?_⟩;rw[aap,L3,aao,c]
  split<;>rfl
structure WV (v:List Nat) (L:List Nd) (p st:List Int) (w:List af) (d:Da) (t:St):Prop where
 num:st.length=kp w w.length
 ahead:∀i,i<kp w (cr d w t).2->∃x n,st[i]?=some x/\cE L x=true/\dq v L x=some n/\n≠0
 stop:(cr d w t).2<w.length->∃x,st[kp w (cr d w t).2]?=some x/\cE L x=true/\dq v L x=some 0
 done:(cr d w t).2=w.length->PV v L p (cr d w t).1
def zum{q:St}{d:Da}(C:q.ok)(hd:d.ok):∀(w:List af) {s:VS} {t:St},Inv s.L->PV (eY q d) s.L s.p t->t.ok->(∀x∈w,x.k<4294967296)->(∀x∈w,mX x=true) ->
  ∃a,(w.foldl fP s).st=s.st++a/\WV (eY q d) (w.foldl fP s).L (w.foldl fP s).p a w d t
 | [],s,t,hi,l,u,_,_=>⟨[],ir,by simp[kp],λi h=>by simp[kp] at h,λh=>by simp[cr] at h,λ_=>l⟩
 | x::w,s,t,hi,l,u,D,E=>by
  have c:=D x ir;have F:=E x ir;obtain⟨z,J⟩:=zul hi l.len c;have G:∀y∈w,y.k<4294967296:=λy A=>D y (by simp[A]);obtain⟨K,U⟩:=zwz w (s:=fP s x) z.inv J G;have e:=z.trans K;obtain⟨q1,M⟩:=l.val 1 an;obtain⟨H,r⟩:=LZ (v:=eY q d) e q1;rw[M] at r;have N:(pt t).getD 1 0=t.x:=rfl;rw[N] at r;rw[ac7]
  cases m:(dJ t x d).2 with
  | true =>
   have O:=zED hi l C hd u c F m;have P:=Gl u c hd;obtain⟨a,n1,B⟩:=zum C hd w z.inv O P G λy A=>E y (by simp[A])
   have f:cr d (x::w) t=((cr d w (dJ t x d).1).1,(cr d w (dJ t x d).1).2+1):=by simp only[cr,m,if_true]
   obtain⟨Q,I,R,S⟩:=B;refine⟨(if x.op=60 then [s.p.getD 1 0] else [])++a,by rw[n1,zs3,aaq],?_,?_,?_,?_⟩
   .rw[aap,L3,aao,Q]
    split<;>rfl
   .rw[f];intro i g;simp only[L3] at g
    by_cases b:x.op=60
    .rw[if_pos b] at g |-
     cases i with
     | zero=>exact⟨_,_,rfl,H,r,zIx m b⟩
     | succ i =>
      obtain⟨y,n,j,o⟩:=I i an;exact⟨y,n,by simpa using j,o⟩
    .rw[if_neg b] at g |-;obtain⟨y,n,j,o⟩:=I i an;exact⟨y,n,by simpa using j,o⟩
   .rw[f];intro g;simp only[L3,aap] at g |-;obtain⟨y,j,o⟩:=R an;refine⟨y,?_,o⟩
    by_cases b:x.op=60
    .rw[if_pos b,if_pos b,abT];simpa using j
    .rw[if_neg b,if_neg b,abm];simpa using j
   .rw[f];intro h;simp only[aap] at h
    exact S an
  | false =>
   obtain⟨b,T⟩:=zwy F m
   have f:cr d (x::w) t=(t,0):=by simp only[cr,m,aau,if_false]
   obtain⟨a,n1,B⟩:=zyH w (fP s x);refine⟨(if x.op=60 then [s.p.getD 1 0] else [])++a,by rw[n1,zs3,aaq],?_,?_,?_,?_⟩
   .rw[aap,L3,aao,B]
    split<;>rfl
   .rw[f];intro i g;simp[kp] at g
   .rw[f];intro _;rw[if_pos b];exact⟨_,rfl,H,by rw[r,T]⟩
   .rw[f];intro h;simp at h
def zwA{s:St}{d:Da}(a:s.ok){i:Nat}(hi:i<18):(eY s d).getD i 0=(pt s).getD i 0:=by
 have b:=a.2.2.1
 have e:eY s d=pt s++iV d:=by simp[eY,pt]
 rw[e,aak,aak,aai (by simp[pt,b];omega)]
def zEE{s:St}{d:Da}(hi:Inv L)(b:s.ok)(hd:d.ok):PV (eY s d) (kA L 18).L (kA L 18).p s:=by
 have e:=zqM b hd;have f:=zyF b hd
 have a:∀n,n<=18->∀i,i<n->cE (kA L n).L ((kA L n).p.getD i 0)=true/\dq (eY s d) (kA L n).L ((kA L n).p.getD i 0)=some ((pt s).getD i 0):=by
  intro n
  induction n with
  | zero=>intro _ i h;omega
  | succ n g =>
   intro t i u;have c:=LY hi n;rw[Uj,E_];simp only;have r:=zyE (v:=eY s d) (i:=(n:Int)) c.ext.inv e f an an;obtain⟨j,k⟩:=r.has
   by_cases h:i=n
   .subst h;rw[aak,abg,if_pos rfl,if_pos (by rw[c.len];omega),ac3];refine⟨j,?_⟩;rw[k,abx,<-aak,zwA b an]
   .rw[aak,abg,if_neg an,<-aak];obtain⟨l,m⟩:=g an i an;obtain⟨o,q⟩:=LZ (v:=eY s d) (LQ c.ext.inv) l;exact⟨o,by rw[q,m]⟩
 exact⟨(LY hi 18).len,λi h=>a 18 (aaF _) i h⟩
def Uo{s:St}{d:Da}{w:List af}(hi:Inv L)(a:s.ok)(hd:d.ok)(g:∀x∈w,x.k<4294967296)(c:a_ w=true):WV (eY s d) (aK L w).L (aK L w).p (aK L w).st w d s:=by
 have b:∀x∈w,mX x=true:=by simp only[a_,aae,abe] at c;exact c.2
 obtain⟨h,e,f⟩:=zum a hd w (LY hi 18).ext.inv (zEE hi a hd) a g b;rw[zwu,ace] at e;rw[<-e] at f;exact f
def WV.ext{p st:List Int}{w:List af}{d:Da}{t:St}{k:Nat}(h:WV v L p st w d t)(e:Ext L L' k):WV v L' p st w d t:=by
 have l:∀{x:Int} {o:Option Nat},cE L x=true->dq v L x=o->cE L' x=true/\dq v L' x=o:=λa b=>by
  obtain⟨m,q⟩:=LZ (v:=v) e a;exact⟨m,by rw[q,b]⟩
 refine⟨h.num,λi hi=>?_,λf=>?_,λf=>(h.done f).same e⟩
 .obtain⟨x,n,a,b,c,d⟩:=h.ahead i hi;obtain⟨g,j⟩:=l b c;exact⟨x,n,a,g,j,d⟩
 .obtain⟨x,a,b,c⟩:=h.stop f;obtain⟨g,j⟩:=l b c;exact⟨x,a,g,j⟩
def mb(s:St)(n:Nat):aZ n s.cs=s.cs:=by simp[St.cs,V.cl,g9,ax,aas]
def DE(d:Da)(n:Nat):aZ n d.cs=d.cs:=by simp[Da.cs,V.cl,g9,ax,aas]
def PM(s:St):s.cs.map V.jA=s.cs:=by simp[St.cs,ax,aas,V.jA]
def Kb(d:Da):d.cs.map V.jA=d.cs:=by simp[Da.cs,ax,aas,V.jA]
def fi{s:St}(h:s.ok):s.cs.length=18:=by simp[St.cs,h.2.2.1]
def MB{d:Da}(h:d.ok):d.cs.length=9:=by simp[Da.cs,h.2.2.2.1]
def Ad(live p:Nat):Bool:=live/2^p%2==1
def y8(live:Nat)(x y:List Nat)(p:Nat):Bool:=Ad live p&&(x.getD p 0 !=y.getD p 0)
def Uq(live:Nat)(x y:List Nat):Bool:=(aaI 18).any (y8 live x y)
def wu(v w:List af)(live:Nat)(s:St)(d:Da):Bool :=
 if(cr d v s).2<v.length\/(cr d w s).2<w.length then !(decide ((cr d v s).2<v.length)&&decide ((cr d w s).2<w.length))
 else Uq live (eY (cr d v s).1 d) (eY (cr d w s).1 d)
def zzZ[cQ G](live p:Nat)(a:live<4294967296)(e:p<=31):FP G 307 [.int .u32 live,.int .i64 p] (.bool (Ad live p)):=by
 refine bw cQ.ae4 (aaf rfl) ?_;have b:live/2^p<4294967296:=acX (Nat.div_le_self _ _) a
 have c:(((live/2^p%2:Nat):Int)==1)=Ad live p:=by unfold Ad;rw[acB,beq_iff_eq,beq_iff_eq];omega
 have d:((p:Int)<0)=False:=ah8;simp(disch:=omega)[Bu,zFv b,c,d,-abF,-abW,-ac8]
def zrX{live:Nat}{x y:List Nat}{i:Nat}(hi:i<18)(h:y8 live x y i=true):Uq live x y=true :=
 abX.2 ⟨i,aaK.2 hi,h⟩
def zun{live:Nat}{x y:List Nat}(h:∀j<18,y8 live x y j=false):Uq live x y=false:=by rw[Uq,List.any_eq_false];intro j a;rw[h j (aaK.1 a)];decide
def zz0[dT G][dy G][aE G][aD G][bQ G][cW G][aQ G][cY G][cZ G][cQ G](v w:List af)(live:Nat)(s:St)(d:Da)(W:v.length<=maxLen)(Z:w.length<=maxLen)
  (z:∀x∈v,x.k<4294967296) (C:∀x∈w,x.k<4294967296) (gT:live<4294967296) (c:s.ok) (hd:d.ok) :
  FP G 308 [FL v,FL w,.int .u32 live,SV s,DV d] (.bool (a_ v&&a_ w&&wu v w live s d)):=by
 refine bw cQ.ae5 (aaf rfl) ?_;have Is:=Ca (G:=G) v W z;have SC:=Ca (G:=G) w Z C;have sl:=fi c;have g:=MB hd;have st:=aaj (i:=18) (l:=s.cs) an;have dt:=aaj (i:=9) (l:=d.cs) an;have sd:s.cs.drop 18=[]:=aan an;have dd:d.cs.drop 9=[]:=aan an;simp only[FL] at Is SC;simp[FL,SV,DV];refine aw Is ?_
 cases hv:a_ v with
 | false=>simp
 | true =>
  simp;refine aw SC ?_
  cases hw:a_ w with
  | false=>simp
  | true =>
   have D:=zuk (G:=G) v s d W z c hd hv;have b:=zuk (G:=G) w s d Z C c hd hw;have o:=G2 hd v s c z;have r:=G2 hd w s c C;have CH:=G1 d v s;have Am:=G1 d w s;have E:wu v w live s d=wu v w live s d:=rfl
   conv at E=>rhs;unfold wu
   obtain⟨A,F⟩:=bb ((cr d v s).1);obtain⟨n,H⟩:=bb ((cr d v s).2);obtain⟨B,I⟩:=bb ((cr d w s).1);obtain⟨m,J⟩:=bb ((cr d w s).2);rw[<-F,<-H] at D;rw[<-I,<-J] at b;rw[<-F,<-I,<-H,<-J] at E;rw[<-F] at o;rw[<-I] at r;rw[<-H] at CH;rw[<-J] at Am;rw[E];have al:=fi o;have bl:=fi r;have K:=aaj (i:=18) (l:=A.cs) an;have L:=aaj (i:=18) (l:=B.cs) an
   have x1:=zoL (G:=G) A d o hd;have x2:=zoL (G:=G) B d r hd
   have t:(eY A d).length=34:=by rw[<-zs2 hd];exact zqN o hd an
   have u:(eY B d).length=34:=by rw[<-zs2 hd];exact zqN r hd an
   obtain⟨X,M⟩:=bb (eY A d);obtain⟨Y,N⟩:=bb (eY B d);rw[<-M] at x1 t;rw[<-N] at x2 u;simp only[FL,SV,DV] at D b x1 x2;simp[sl,g,st,dt,mb,DE,PM,Kb];refine aw D ?_;simp[sl,g,st,dt,al,mb,DE,PM,Kb];refine aw b ?_;have c1:((n:Int)<(v.length:Int))=(n<v.length):=propext an;have c2:((m:Int)<(w.length:Int))=(m<w.length):=propext an;simp[bl,c1,c2]
   by_cases y:n<v.length
   .by_cases e:m<w.length
    .simp[y,e]
    .simp[y,e]
   by_cases e:m<w.length
   .simp[y,e]
   simp[y,e,g,dt,al,K,mb,DE,PM,Kb];refine aw x1 ?_;simp[g,dt,bl,L,mb,DE,PM,Kb];refine aw x2 ?_;have xt:=aaj (i:=34) (l:=ax .u32 X) (by simp;omega);have yt:=aaj (i:=34) (l:=ax .u32 Y) (by simp;omega);have xd:(ax .u32 X).drop 34=[]:=aan (by simp;omega);have yd:(ax .u32 Y).drop 34=[]:=aan (by simp;omega);simp[t,u]
   refine aO 18 (λi=>[(2,.int .u32 live),(17,.ptr 4 0),(18,.ptr 5 0),(63,.int .i64 i)])
    (λi=>[some (.cells s.cs),some (.cells d.cs),some (.cells A.cs),some (.cells B.cs),some (.cells (ax .u32 X)),some (.cells (ax .u32 Y))]) (λi=>∀j<i,y8 live X Y j=false) ?_ ?_
   .simp[av,ak,mb,DE]
   intro i hi O
   by_cases P:i<18
   .have jl:=zzZ (G:=G) live i gT an;have Q:=su .u32 X i an;have R:=su .u32 Y i an
    have gx:X.getD i 0=X[i]'(by omega):=by simp[aa2,aah (show i<X.length by omega)]
    have gy:Y.getD i 0=Y[i]'(by omega):=by simp[aa2,aah (show i<Y.length by omega)]
    have a:y8 live X Y i=y8 live X Y i:=rfl
    conv at a=>rhs;rw[y8,gx,gy]
    obtain⟨p,L4⟩:=bb (X[i]'(by omega));obtain⟨q,f⟩:=bb (Y[i]'(by omega));rw[<-L4,<-f] at a;rw[<-L4] at Q;rw[<-f] at R;simp(disch:=omega)[bC];refine aw jl ?_
    cases b:Ad live i with
    | false =>
     rw[b,ab5] at a
     have S:∀j<i+1,y8 live X Y j=false:=λj T=>by
      rcases aa_.1 T with h|rfl
      .exact O j h
      .exact a
     simp(disch:=omega)[P,bA,av,ak,mb,DE,-aab]
     exact S
    | true =>
     rw[b,abb] at a
     by_cases U:p=q
     .have V:y8 live X Y i=false:=by rw[a,U];simp
      have S:∀j<i+1,y8 live X Y j=false:=λj T=>by
       rcases aa_.1 T with h|rfl
       .exact O j h
       .exact V
      simp(disch:=omega)[bC,aB,P,t,u,Q,R,U,bA,av,ak,mb,DE,-aab];exact S
     .have V:y8 live X Y i=true:=by rw[a];simp[U]
      have:=zrX P V;simp(disch:=omega)[bC,aB,t,u,Q,R,ki (show(p:Int)≠q by omega),this,<-M,<-N]
   .have az:i=18:=an
    subst az;simp[zun O,<-M,<-N]
structure MI (v:List Nat) (s:MS):Prop where
 inv:Inv s.L
 len:s.ids.length=s.made.length
 ok:abr s.made
 rel:∀(i:Nat) (x:Int) (a:Md) (o:Option Nat),s.ids[i]?=some x->s.made[i]?=some a->(refs v s.made)[i]?=some o ->
  a.kind=4/\x=-1/\o=none\/a.kind≠4/\∃n:Nat,x=n/\n<s.L.length/\dq v s.L n=o
def PN(f g:List Nat):Option Nat:=(aaI 34).find? λi=>decide (f.getD (i+1) 0≠g.getD (i+1) 0)
def y9(f g:List Nat):List Nat×Bool:=if f.headD 0≠g.headD 0 then(aR 34,true) else match PN f g with
 | some i=>((aR 34).set i 1,true)
 | none=>(aR 34,false)
def zz1(f g:List Nat):(y9 f g).1.length=34:=by
 rw[y9];split
 .simp
 .split<;>simp
def zB4(f g:List Nat):∀x∈(y9 f g).1,x<4294967296:=by
 rw[y9];split
 .exact x7 34
 .split
  .intro x a
   rcases acx a with h|rfl
   .exact x7 34 x h
   .decide
  .exact x7 34
def zB5[bS G](f g:List Nat)(y:f.length=35)(z:g.length=35):FP G 255 [.agg (ax .u32 f),.agg (ax .u32 g)] (.bc [.agg (ax .u32 (y9 f g).1),.bool (y9 f g).2]):=by
 refine bw bS.aeY (aaf rfl) ?_
 obtain⟨c,t,rfl⟩:∃c t,f=c::t:=by cases f with|nil=>simp at y|cons c t=>exact⟨c,t,rfl⟩
 obtain⟨d,u,rfl⟩:∃c t,g=c::t:=by cases g with|nil=>simp at z|cons c t=>exact⟨c,t,rfl⟩
 have a:t.length=34:=by simpa using y
 have b:u.length=34:=by simpa using z
 have A:ax .u32 (c::t)=.int .u32 (c:Int)::ax .u32 t:=rfl;have hd:ax .u32 (d::u)=.int .u32 (d:Int)::ax .u32 u:=rfl;have F:=eA (k:=.u32) a;have H:=eA (k:=.u32) b
 have h:∀(i:Nat) (x:V) (l:List V),(x::l).drop (1+i)=l.drop i:=λi x l=>by rw[abT,abH]
 have o:(ax .u32 (aR 34)).drop 34=[]:=rfl
 by_cases p:c=d
 case neg =>
  have K:((c:Int)==(d:Int))=false:=aG an
  have m:y9 (c::t) (d::u)=(aR 34,true):=by simp[y9,p]
  simp[-abj,A,hd,a,b,o,m,ki,p]
 subst p
 have bne:((c:Int) !=(c:Int))=false:=by simp
 simp[-abj,A,hd,a,b,F]
 refine aO 34 (λi=>[(3,.ptr 1 0),(4,.ptr 2 0),(6,.ptr 3 0),(16,.agg (ax .u32 t)),(17,.int .i64 i)])
  (λi=>[some (.cells (.int .u32 (c:Int)::ax .u32 t)),some (.cells (.int .u32 (c:Int)::ax .u32 u)),some (.cells (ax .u32 (aR 34))),some (.cells (ax .u32 (aR 34)))]) (λi=>∀j,j<i->t.getD j 0=u.getD j 0) ?_ ?_
 .simp[av,ak,aZ,V.cl]
 intro i hi q
 by_cases r:i<34
 .have q1:=EZ .u32 (lf (show i<t.length by omega));have B:=EZ .u32 (lf (show i<u.length by omega))
  have C:t.getD i 0=t[i]'(by omega):=by rw[aak,lf an];rfl
  have D:u.getD i 0=u[i]'(by omega):=by rw[aak,lf an];rfl
  by_cases s:t[i]' an=u[i]' an
  .have I:∀j,j<i+1->t.getD j 0=u.getD j 0:=λj n=>by
    by_cases e:j=i
    .subst e;rw[C,D,s]
    .exact q j an
   simp(disch:=omega)[bC,leFn,aB,r,a,b,q1,B,h,s,bA,-aab,av,ak,aZ,V.cl];simpa using I
  .have J:((t[i]'(by omega):Nat):Int)≠((u[i]'(by omega):Nat):Int):=an
   have v:PN (c::t) (c::u)=some i:=by
    rw[PN,List.find?_range_eq_some];refine⟨?_,aaK.2 r,λj n=>?_⟩
    .simp only[abh,C,D];simpa using s
    .have:=q j n;simp only[abh];simpa using this
   have m:y9 (c::t) (c::u)=((aR 34).set i 1,true):=by simp[y9,v]
   have E:=wQ .u32 (aR 34) i 1 (by simpa using r);have w:(ax .u32 ((aR 34).set i 1)).take 34=ax .u32 ((aR 34).set i 1):=eA ir;simp(disch:=omega)[-abj,bC,leFn,aB,a,b,q1,B,h,ki J,m,o];simp at E;simp(disch:=omega)[-abj,E,w]
 .obtain rfl:i=34:=by omega
  have v:PN (c::t) (c::u)=none:=by rw[PN,acs];intro j n;have:=q j (aaK.1 n);simp only[abh];simpa using this
  have m:y9 (c::t) (c::u)=(aR 34,false):=by simp[y9,v]
  simp[-abj,m,o]
def zB6(M:List Int)(p:Int->Bool):∀w∈jo M p,w<4294967296:=by
 intro w a;simp only[jo,abn] at a;obtain⟨i,_,rfl⟩:=a
 split<;>omega
def zz2(fv gv:List Int)(ft gt:List Nat):(yM fv gv ft gt).1.length=34:=by
 simp only[yM];split
 .split<;>simp[jo]
 .simp
def zB7(fv gv:List Int)(ft gt:List Nat):∀x∈(yM fv gv ft gt).1,x<4294967296:=by
 simp only[yM];split
 .split
  .exact zB6 _ _
  .exact x7 34
 .exact x7 34
noncomputable def Fb(a c:Nd):List Nat×Bool:=if a.kind=0/\c.kind=0 then y9 a.f c.f else match gK a,gK c with
 | some p,some q=>yM p.1 q.1 p.2 q.2
 | _,_=>(aR 34,false)
noncomputable def t_(L:List Nd)(x y:Int):List Nat×Bool:=if cE L x=true/\cE L y=true/\x≠y then(match L[x.toNat]?,L[y.toNat]? with
 | some a,some c=>Fb a c
 | _,_=>(aR 34,false)) else(aR 34,false)
def zyI(a c:Nd):(Fb a c).1.length=34/\∀x∈(Fb a c).1,x<4294967296:=by
 rw[Fb];split
 .exact⟨zz1 _ _,zB4 _ _⟩
 .split
  .exact⟨zz2 _ _ _ _,zB7 _ _ _ _⟩
  .exact⟨ir,x7 34⟩
def zyJ(L:List Nd)(x y:Int):(t_ L x y).1.length=34/\∀c∈(t_ L x y).1,c<4294967296:=by
 rw[t_];split
 .split
  .exact zyI _ _
  .exact⟨ir,x7 34⟩
 .exact⟨ir,x7 34⟩
def zIy{x y:Nat}{a c:Nd}(b:L[x]?=some a)(d:L[y]?=some c)(g:x≠y):t_ L x y=Fb a c:=by have e:=(aaa.1 b).1;have f:=(aaa.1 d).1;rw[t_,if_pos ⟨by simp[cE];exact e,by simp[cE];exact f,an⟩,abx,abx,b,d]
def zG0[bS G][au G][U:dU G][aN G][bZ G](x y:Int)(h:Bk H b z m L)(hi:Inv L):SF G 277 [.ptr b 0,.int .i64 x,.int .i64 y] H (.bc [.agg (ax .u32 (t_ L x y).1),.bool (t_ L x y).2]) H:=by
 haveI:bJ G:=U.tobJ
 refine kr bZ.aeX (aaf rfl) ?_;obtain⟨Z,i⟩:=bb (ax .u32 (aR 34))
 have j:Z.length=34:=by rw[i];simp
 have l:Z.drop 34=[]:=aan an;have B:Z.take 34=Z:=aaj an
 have o:∀n,aZ n Z=Z:=λn=>by rw[i];simp
 have hb:∀n,aaU (ay.cl n) (some (.cells Z))=some (.cells Z):=λn=>by simp[ay.cl,o]
 have t:Bk (H++[some (.cells Z),some (.cells Z)]) b z m L:=h.app λn=>by simp[ay.cl,o]
 have tN:=t.shut.self;have s:=h.shut.back;simp at tN;simp[<-i,-abj];refine cP (Jq x t) ?_
 cases hx:cE L x with
 | false =>
  have C:t_ L x y=(aR 34,false):=by rw[t_,if_neg (by simp[hx])]
  simp[C,<-i,j,l,B,s,o]
 | true =>
  simp;refine cP (Jq y t) ?_
  cases hy:cE L y with
  | false =>
   have C:t_ L x y=(aR 34,false):=by rw[t_,if_neg (by simp[hy])]
   simp[C,<-i,j,l,B,s,o]
  | true =>
   by_cases V:x=y
   .subst V
    have C:t_ L x x=(aR 34,false):=by rw[t_,if_neg ir]
    simp[C,<-i,j,l,B,s,o]
   have wZ:(x==y)=false:=aG V
   obtain⟨sD,ym⟩:0<=x/\x<L.length:=by simpa[cE] using hx
   obtain⟨DP,A5⟩:0<=y/\y<L.length:=by simpa[cE] using hy
   obtain⟨K,rfl⟩:=aa1 sD;obtain⟨M,rfl⟩:=aa1 DP;obtain⟨a,N⟩:∃a,L[K]?=some a:=⟨_,lf an⟩;obtain⟨c,O⟩:∃c,L[M]?=some c:=⟨_,lf an⟩;have v:=hi.cO _ _ N;have w:=hi.cO _ _ O;have C:t_ L K M=Fb a c:=zIy N O (λe=>V (by rw[e]));have P:=zyI a c;rw[C];have rU:(ax .u32 (aR 35)).drop 35=[]:=rfl;have ta:=eA (k:=.u32) v.1.1;have tc:=eA (k:=.u32) w.1.1
   have Q:∀r:ae,(∀n,r.map (aaU (ay.cl n))=r)->Bk (H++some (.cells Z)::some (.cells Z)::r) b z m L:=λr W=>h.app λn=>by simp[ay.cl,o,W n]
   have T:∀r:ae,(∀n,r.map (aaU (ay.cl n))=r)->ak (H.length+(r.length+1+1)) (H++some (.cells Z)::some (.cells Z)::r)=H++some (.cells Z)::some (.cells Z)::r:=λr W=>by
    have:=(Q r W).shut.self;simpa using this
   simp[wZ,-abj];refine cP (Px K a (Q [none] λn=>by simp) N) ?_
   have s1:=T [some (.cells (ax .u32 a.f))] λn=>by simp[ay.cl]
   simp at s1;simp[v.1.1,rU];refine cP (Px M c (Q [some (.cells (ax .u32 a.f)),none] λn=>by simp[ay.cl]) O) ?_
   have s2:=T [some (.cells (ax .u32 a.f)),some (.cells (ax .u32 c.f))] λn=>by simp[ay.cl]
   simp at s2;simp[w.1.1,rU];obtain⟨A,D⟩:=bb (Fb a c);rw[<-D] at P |-;have X:=eA (k:=.u32) P.1
   by_cases I:a.kind=0/\c.kind=0
   .have d:A=y9 a.f c.f:=by rw[D,Fb,if_pos I]
    have hf:=zB5 (G:=G) a.f c.f v.1.1 w.1.1;rw[<-d] at hf;simp[I.1,I.2,v.1.1,ta,w.1.1,tc];refine aw hf ?_;simp[P.1,X,j,l,s]
   .have he:(decide (a.kind=0)&&decide (c.kind=0))=false:=by
     rw[acE]
     by_cases J:a.kind=0
     .right;simpa using λt=>I ⟨J,t⟩
     .left;simpa using J
    have b1:=Q [some (.cells (ax .u32 a.f)),some (.cells (ax .u32 c.f)),none] λn=>by simp[ay.cl]
    have b2:=Q [some (.cells (ax .u32 a.f)),some (.cells (ax .u32 c.f)),some (.cells (mF (gK a))),none] λn=>by simp[ay.cl,LO]
    have s3:=T [some (.cells (ax .u32 a.f)),some (.cells (ax .u32 c.f)),some (.cells (mF (gK a)))] λn=>by simp[ay.cl,LO]
    have s4:=T [some (.cells (ax .u32 a.f)),some (.cells (ax .u32 c.f)),some (.cells (mF (gK a))),some (.cells (mF (gK c)))] λn=>by simp[ay.cl,LO]
    simp at s3 s4
    have g:∀(p q:Option (List Int×List Nat)),gK a=p->gK c=q->(p.isSome=true->q.isSome=true->∃Y q',p=some Y/\q=some q'/\A=yM Y.1 q'.1 Y.2 q'.2)/\((p.isSome&&q.isSome)=false->A=(aR 34,false)):=λp q ep eq=>by
     have d:=D;rw[Fb,if_neg I,ep,eq] at d
     cases p<;>cases q<;>simp at d |-<;>exact d
    by_cases J:a.kind=0
    .have t:¬c.kind=0:=λt=>I ⟨J,t⟩;simp[J];simp[t];refine cP (Ju K a b1 N v.2.1) ?_;simp[LM,LN];refine cP (Ju M c b2 O w.2.1) ?_;simp[LM,LN]
     cases u:gK a with
     | none =>
      have d:=(g _ _ u rfl).2 rfl
      simp[d,<-i,j,l,B,s,o]
     | some p =>
      cases E:gK c with
      | none =>
       have d:=(g _ _ u E).2 rfl
       simp[d,<-i,j,l,B,s,o]
      | some q =>
       obtain⟨_,_,e1,e2,d⟩:=(g _ _ u E).1 rfl rfl;cases e1;cases e2;obtain⟨R,yX⟩:=Js v.2.1 u;obtain⟨S,Jt⟩:=Js w.2.1 E;have l1:=R.1;have l2:=S.1;have l3:=CV l1 R.2.1;have l4:=CV l2 S.2.1;have F:=zvF U p.1 q.1 p.2 q.2 an an an an yX Jt;rw[<-d] at F;simp only[FV] at F;simp[mF];refine aw F ?_;simp[P.1,X,j,l,s]
    .simp[J];refine cP (Ju K a b1 N v.2.1) ?_;simp[LM,LN];refine cP (Ju M c b2 O w.2.1) ?_;simp[LM,LN]
     cases u:gK a with
     | none =>
      have d:=(g _ _ u rfl).2 rfl
      simp[d,<-i,j,l,B,s,o]
     | some p =>
      cases E:gK c with
      | none =>
       have d:=(g _ _ u E).2 rfl
       simp[d,<-i,j,l,B,s,o]
      | some q =>
       obtain⟨_,_,e1,e2,d⟩:=(g _ _ u E).1 rfl rfl;cases e1;cases e2;obtain⟨R,yX⟩:=Js v.2.1 u;obtain⟨S,Jt⟩:=Js w.2.1 E;have l1:=R.1;have l2:=S.1;have l3:=CV l1 R.2.1;have l4:=CV l2 S.2.1;have F:=zvF U p.1 q.1 p.2 q.2 an an an an yX Jt;rw[<-d] at F;simp only[FV] at F;simp[mF];refine aw F ?_;simp[P.1,X,j,l,s]
variable {L L' L'':List Nd}
def Nd.pl(a:Nd):Prop:=(a.kind=0->a=fe a.f)/\(a.kind=1->∃fv ft,a=wj fv ft/\Right fv ft/\fv≠[]/\∀i,fv=[i]->ft≠[0,ones]/\ft≠[ones,0])
def AE(x:af)(j i:Nat):Bool:=if x.op=5 then decide (j+1+x.k=i) else aX x.op&&(decide (j+1+x.jt.toNat=i)||decide (j+1+x.jf.toNat=i))
def rY(f:List af)(m i:Nat):Bool:=(aaI m).any λj=>AE (f.getD j wo) j i
def iZ(f:List af)(m:Nat):List Bool:=(aaI f.length).map (rY f m)
def Ut(f:List af)(m:Nat):(iZ f m).length=f.length:=by simp[iZ]
def zoM(f:List af)(m i:Nat):rY f (m+1) i=(rY f m i||AE (f.getD m wo) m i):=by simp[rY,abv,List.any_append]
def L7(f:List af)(m i:Nat)(h:i<f.length):(iZ f m)[i]?=some (rY f m i):=by simp[iZ,h]
def zqP(f:List af)(m:Nat)(l:List Bool)(a:l.length=f.length)(h:∀i,i<f.length->l[i]?=some (rY f (m+1) i)):l=iZ f (m+1):=by
 refine ab6 λi=>?_
 by_cases hi:i<f.length
 .rw[h i hi,L7 _ _ _ hi]
 .rw[aby an,aby (by rw[Ut];omega)]
def zoN:∀l:List Bool,qa 1 l.length (cb l)=oK l
 | []=>rfl
 | x::l=>by
  have:=zoN l;simp only[cb] at this;simp[qa,cb,oK,this]
def zrZ[aE G][eJ G](f:List af)(l:du f=true)(D:∀x∈f,x.k<4294967296):FP G 204 [FL f] (.vs (oK (iZ f f.length)) .no):=by
 refine bw eJ.ahR (aaf rfl) ?_
 have O:f.length<=4096:=by simp only[du,aae,decide_eq_true_eq] at l;exact l.1.1
 simp(disch:=omega)[FL,aB];refine aO f.length (λm=>[(3,.rs 0 0 f.length 1),(9,FL f),(10,.int .i64 f.length),(11,.int .i64 m)]) (λm=>[some (.cells (cb (iZ f m)))]) (λ_=>True) ?_ ?_
 .have:iZ f 0=abt f.length false:=by
   refine ab6 λi=>?_
   by_cases hi:i<f.length
   .rw[L7 _ _ _ hi,List.getElem?_replicate_of_lt hi];rfl
   .rw[aby (by rw[Ut];omega),aby (by simp;omega)]
  simp[av,ak,FL,this]
 intro m P _;have a:=Ut f m
 by_cases d:m<f.length
 .obtain⟨x,g⟩:=bb (f[m]);have z:=sC d;rw[<-g] at z;have g:=g.symm
  have s:f[m]?=some x:=by rw[aah d,g]
  have t:f.getD m wo=x:=by rw[aa2,s];rfl
  have E:=D x (g▸aaD d);have n:=zL (G:=G) x;have A:x.cs=[.int .i64 x.op,.int .i64 x.jt,.int .i64 x.jf,.int .u32 x.k]:=rfl;simp[IV,A] at n;have F:=Ld l s;have u:=λo=>Ei (o:=o) l s;have B:aC .i64 m 1=((m+1:Nat):Int):=bA an;have H:=CW x.k E;simp(disch:=omega)[FL,bC,z,A]
  by_cases b:x.op=5
  .have v:(x.op==5)=true:=by simp[b]
   have I:aX x.op=false:=by rw[b];decide
   have Q:=u x.k (by simp[aY,b,show fW 5=false by decide]);have w:aC .i64 ((m+1:Nat):Int) (x.k:Int)=((m+1+x.k:Nat):Int):=qA an;have c:=SQ (iZ f m) (m+1+x.k) true an
   have j:(iZ f m).set (m+1+x.k) true=iZ f (m+1):=by
    refine zqP f m _ (by simp[a]) λi hi=>?_;rw[abg,L7 _ _ _ hi,zoM,t]
    by_cases q:m+1+x.k=i
    .subst q;simp[AE,b,a,hi]
    .simp[AE,b,q]
   rw[I] at n;rw[j] at c;simp(disch:=omega)[v,B,w,H,a,gV,aB,c,-aab];refine aw n ?_;simp(disch:=omega)[d,bA,av,ak,-aab]
  .have v:(x.op==5)=false:=aG b;simp(disch:=omega)[v,-aab];refine aw n ?_;cases e:aX x.op
   .have j:iZ f m=iZ f (m+1):=by refine zqP f m _ a λi hi=>?_;rw[L7 _ _ _ hi,zoM,t];simp[AE,b,e]
    rw[j];simp(disch:=omega)[d,bA,av,ak,-aab]
   .obtain⟨R,S,T,U⟩:=F e
    have r:fW x.op=false:=by
     have y:∀p∈[21,37,53,69,29,45,61,(77:Int)],fW p=false:=by decide
     exact y _ (by simpa[aX] using e)
    have J:=u x.jt.toNat (by simp[aY,r,b,e]);have K:=u x.jf.toNat (by simp[aY,r,b,e])
    have w:aC .i64 ((m+1:Nat):Int) x.jt=(m+1+x.jt.toNat:Nat):=qq
    have L:aC .i64 ((m+1:Nat):Int) x.jf=(m+1+x.jf.toNat:Nat):=qq
    have c:=SQ (iZ f m) (m+1+x.jt.toNat) true an;have C:=SQ ((iZ f m).set (m+1+x.jt.toNat) true) (m+1+x.jf.toNat) true (by rw[aaw];omega)
    have j:((iZ f m).set (m+1+x.jt.toNat) true).set (m+1+x.jf.toNat) true=iZ f (m+1):=by
     refine zqP f m _ (by simp[a]) λi hi=>?_;rw[abg,abg,L7 _ _ _ hi,zoM,t]
     by_cases q:m+1+x.jt.toNat=i<;>by_cases M:m+1+x.jf.toNat=i<;>simp[AE,b,e,q,M,a,hi]
    rw[j] at C;simp(maxSteps:=20000) (disch:=omega)[B,w,L,-aab];simp[J,a,-aab];simp(disch:=omega)[aB,c,-aab];simp[K,-aab];simp(disch:=omega)[a,aB,C,-aab];simp(disch:=omega)[d,bA,av,ak,-aab]
 .have r:m=f.length:=an
  subst r
  have N:qa 1 f.length (cb (iZ f f.length))=oK (iZ f f.length):=by have h:=zoN (iZ f f.length);rw[a] at h;exact h
  simp(disch:=omega)[a,N]
end Go.Ev
namespace Go.Ev
open Go Go.RowKit
variable {G:aL}
variable {L L':List Nd} {l:List Md}
inductive PO (s:MS) (a:Md):Md->Int×List Nd->Prop
 | none {b p}:b.kind=4->PO s a b p
 | con {b}:b.kind=0->b.c=a.c->PO s a b (bj s.L (fe (a.c::aR 34)))
 | var {b}:b.kind=1->0<=b.i->b.i<34->PO s a b (ma s.L b.i)
 | alu {b}:b.kind=2->(cC b.op 0 1).2=true->zwn s.made b.x=true->zwn s.made b.y=true->PO s a b (iH s.L b.op (atI s.ids b.x) (atI s.ids b.y))
 | neg {b}:b.kind=3->zwn s.made b.x=true->PO s a b (oV s.L (atI s.ids b.x))
def y_(i:Nat):List Nat:=[0,4294967295,1,2147483648,3+7*i,16843009*(i+1),2,65535,1431655765,2863311530*2^(i%3)%4294967296,i%2,i*2654435769%4294967296]
def mK(k:Nat):List Nat:=(aaI 34).map λi=>(y_ i).getD k 0
def JL(k:Nat):(mK k).length=34:=by simp[mK]
def zB8{i:Nat}(hi:i<34):∀x∈y_ i,x<4294967296:=by
 intro x a;simp only[y_,aaG,aaZ,or_false] at a
 rcases a with rfl|rfl|rfl|rfl|rfl|rfl|rfl|rfl|rfl|rfl|rfl|rfl<;>omega
def zG1(k:Nat):∀x∈mK k,x<4294967296:=by
 intro x a;simp only[mK,abn,aaK] at a;obtain⟨i,hi,rfl⟩:=a;rw[aa2]
 cases b:(y_ i)[k]? with
 | none=>decide
 | some y=>exact zB8 hi y (aaA b)
def w8(k i:Nat):List Nat:=(mK k).take i++aR (34-i)
def zoO{k i:Nat}(hi:i<=34):(w8 k i).length=34:=by simp[w8,JL];omega
def zEF(k:Nat):w8 k 34=mK k:=by rw[w8,aaj (by rw[JL];exact aaF _)];simp[aR]
def zB9{k i:Nat}(hi:i<34):(w8 k i).set i ((y_ i).getD k 0)=w8 k (i+1):=by
 have a:(mK k)[i]'(by rw[JL];omega)=(y_ i).getD k 0:=by simp[mK]
 rw[w8,w8,abV _ _ (by rw[aav];omega),aav,acD (by rw[JL];omega),adg,aca (by rw[JL];omega),a,aaq]
 congr 1
 rw[show 34-i=(34-(i+1))+1 by omega];rfl
def zIz{a b:Nat}:dS .u32 a (b:Int)=((a*b%4294967296:Nat):Int):=by unfold dS;rw[<-aa7];simp only[IntKind.wrap,IntKind.bits,IntKind.signed];simp
section
variable {α:Type} {f:Nat->Option α} {hit:α->Bool} {n i:Nat}
def znz(h:∀j<n,∀r,f j=some r->hit r=false):((aaI n).filterMap f).find? hit=none:=by rw[acs];intro r a;obtain⟨j,b,c⟩:=abM.1 a;rw[h j (aaK.1 b) r c];decide
def zwB(hi:i<n)(h:∀j<i,∀r,f j=some r->hit r=false){r:α}(a:f i=some r)(b:hit r=true):((aaI n).filterMap f).find? hit=some r:=by obtain⟨m,rfl⟩:∃m,n=i+(m+1):=⟨n-i-1,an⟩;rw[List.range_add,List.filterMap_append,ab7,znz h,Option.none_or];rw[List.range_succ_eq_map,abI,List.filterMap_cons];simp only[abU,a,List.find?_cons,b]
end
noncomputable def Fc(L:List Nd)(p q:List Int)(live i:Nat):Option (List Nat):=if Ad live i=true/\(t_ L (p.getD i 0) (q.getD i 0)).2=true then some (t_ L (p.getD i 0) (q.getD i 0)).1 else none
noncomputable def s_(L:List Nd)(p q:List Int)(live:Nat):List (List Nat):=(aaI 18).filterMap (Fc L p q live)++(aaI 12).filterMap λk=>some (mK k)
def Uu{L:List Nd}{p q:List Int}{live:Nat}{r:List Nat}(h:r∈s_ L p q live):r.length=34/\∀x∈r,x<4294967296:=by
 rw[s_,aaE] at h
 rcases h with h|h
 .obtain⟨j,b,a⟩:=abM.1 h;unfold Fc at a;split at a
  .cases a;exact zyJ _ _ _
  .cases a
 .obtain⟨j,b,a⟩:=abM.1 h;cases a;exact⟨JL _,zG1 _⟩
section
variable {H:ae} {b z m:Nat} {L:List Nd}
def PQ{A X:ae}{n:Nat}(h:ak n A=A)(a:A.length=n):ak n (A++X)=A:=by unfold ak at h |-;rw[acd a];rwa[aaj (Nat.le_of_eq a)] at h
def zCa[bS G][au G][S:dU G][aN G][bZ G][cQ G][eT G](h:Bk H b z m L)(hi:Inv L){id i1 i2 i3 i4 live:Nat}{p q s t:List Int}(gT:live<4294967296)
  (T:H[i1]?=some (some (.cells [.int .u32 live]))) (U:H[i2]?=some (some (.cells [.ptr b 0]))) (W:H[i3]?=some (some (.cells (vcs p s .no)))) (Y:H[i4]?=some (some (.cells (vcs q t .no))))
  (hp:p.length=18) (hq:q.length=18) (o:id<H.length) {hit:List Nat->Bool} {H':List Nat->ae}
  (x_:∀r∈s_ L p q live,hit r=false->∀X:ae,(∀n,X.map (aaU (ay.cl n))=X)->YS G id [.agg (ax .u32 r)] (H++X) true (H++X))
  (iJ:∀r∈s_ L p q live,hit r=true->∀X:ae,(∀n,X.map (aaU (ay.cl n))=X)->YS G id [.agg (ax .u32 r)] (H++X) false (H' r++X))
  (oq:∀r∈s_ L p q live,hit r=true->ak H.length (H' r)=H' r/\(H' r).length=H.length) :
  SF G 310 [.yld id,.ptr i1 0,.ptr i2 0,.ptr i3 0,.ptr i4 0] H (.bc []) (match(s_ L p q live).find? hit with|some r=>H' r|none=>H):=by
 refine kr eT.ae7 (aaf rfl) ?_;have w:i1<H.length:=(aaa.1 T).1;have A:i2<H.length:=(aaa.1 U).1;have B:i3<H.length:=(aaa.1 W).1;have C:i4<H.length:=(aaa.1 Y).1;have D:=h.shut.self;have Z:=h.shut.back;have jB:=h.lb;have g1:=(aaa.1 T).2;have g2:=(aaa.1 U).2;have g3:=(aaa.1 W).2;have g4:=(aaa.1 Y).2
 have e1:∀X:ae,(H++X)[i1]?=some (some (.cells [.int .u32 live])):=λX=>by rw[aai w];exact T
 have e2:∀X:ae,(H++X)[i2]?=some (some (.cells [.ptr b 0])):=λX=>by rw[aai A];exact U
 have e3:∀X:ae,(H++X)[i3]?=some (some (.cells (vcs p s .no))):=λX=>by rw[aai B];exact W
 have e4:∀X:ae,(H++X)[i4]?=some (some (.cells (vcs q t .no))):=λX=>by rw[aai C];exact Y
 have HU:∀(X:ae) h,(H++X)[i1]'h=some (.cells [.int .u32 live]):=λX h=>(aaa.1 (e1 X)).2;have CM:∀(X:ae) h,(H++X)[i2]'h=some (.cells [.ptr b 0]):=λX h=>(aaa.1 (e2 X)).2;have ho:∀(X:ae) h,(H++X)[i3]'h=some (.cells (vcs p s .no)):=λX h=>(aaa.1 (e3 X)).2;have ht:∀(X:ae) h,(H++X)[i4]'h=some (.cells (vcs q t .no)):=λX h=>(aaa.1 (e4 X)).2;have k0:∀(r:ae) x,(H++r).set H.length x=H++r.set 0 x:=λr x=>tY rfl x
 have kk:∀r:ae,(H++r)[H.length]?=r[0]?:=λr=>oW rfl;have lp:=GZ (st:=s) (tk:=.no) hp;have lq:=GZ (st:=t) (tk:=.no) hq
 have ha:Bk (H++[none]) b z m L:=h.app λn=>by simp
 have qx:H.map (aaU (ay.cl H.length))=H:=by have:=D;unfold ak at this;rwa[aaj (aaF _)] at this
 simp;refine aO 18 (λi=>[(0,.yld id),(1,.ptr i1 0),(2,.ptr i2 0),(3,.ptr i3 0),(4,.ptr i4 0),(12,.int .i64 i)]) (λ_=>H) (λi=>∀j<i,∀r,Fc L p q live j=some r->hit r=false) ?_ ?_
 .simp[av,D,o,w,A,B,C]
 intro i qS O
 by_cases e:i<18
 .have jl:=zzZ (G:=G) live i gT an;simp(disch:=omega)[bC,g1];refine aw jl ?_
  cases hb:Ad live i with
  | false =>
   have he:∀j<i+1,∀r,Fc L p q live j=some r->hit r=false:=λj E r c=>by
    rcases aa_.1 E with h|rfl
    .exact O j h r c
    .simp[Fc,hb] at c
   simp(disch:=omega)[e,bA,av,D,o,w,A,B,C,-aab]
   exact he
  | true =>
   obtain⟨x,hx⟩:=bb (p.getD i 0);obtain⟨y,hy⟩:=bb (q.getD i 0)
   have gx:x=p[i]'(by omega):=by rw[hx];simp[aa2,aah (show i<p.length by omega)]
   have gy:y=q[i]'(by omega):=by rw[hy];simp[aa2,aah (show i<q.length by omega)]
   have vx:=JD (p:=p) (st:=s) (tk:=.no) hp e;have vy:=JD (p:=q) (st:=t) (tk:=.no) hq e;rw[<-gx] at vx;rw[<-gy] at vy;have fS:=zG0 (G:=G) x y ha hi;have F:=zyJ L x y
   have I:Fc L p q live i=if(t_ L x y).2=true then some (t_ L x y).1 else none:=by rw[hx,hy];simp[Fc,hb]
   obtain⟨r,c⟩:=bb ((t_ L x y).1);obtain⟨P,ja⟩:=bb ((t_ L x y).2);rw[<-c,<-ja] at fS I;rw[<-c] at F;have rt:=eA (k:=.u32) F.1;have rd:(ax .u32 r).drop 34=[]:=aan (by simp[F.1]);simp(disch:=omega)[bC,aB,leFn,e2,e3,e4,lp,lq,vx,vy];refine zBh fS ⟨?_,?_,rfl⟩ ?_
   .intro v hv;simp only[aaG,aaZ,or_false] at hv
    rcases hv with rfl|rfl|rfl<;>simp[V.cl,jB]
   .simp only[adb,qx,abI,acf,Option.map_none]
   simp(disch:=omega)[k0,kk,F.1]
   have zF:P=true->r∈s_ L p q live:=λh=>by
    rw[s_,aaE];exact .inl (abM.2 ⟨i,aaK.2 e,by rw[I,if_pos h]⟩)
   have PT:(∀Q,Fc L p q live i=some Q->hit Q=false)->∀j<i+1,∀r,Fc L p q live j=some r->hit r=false:=λh0 j E r c=>by
    rcases aa_.1 E with h|rfl
    .exact O j h r c
    .exact h0 r c
   cases P with
   | false =>
    have:=PT λQ h=>by rw[I] at h;cases h
    simp(disch:=omega)[e,bA,av,Z,o,w,A,B,C,-aab]
    exact this
   | true =>
    have J:∀n,([some (ay.cells (ax .u32 r))]:ae).map (aaU (ay.cl n))=[some (ay.cells (ax .u32 r))]:=λn=>by simp[ay.cl]
    simp(disch:=omega)[kk,F.1,rt]
    cases d:hit r with
    | false =>
     refine CQ (x_ r (zF rfl) d _ J) ?_
     have:=PT λQ h=>by rw[I,if_pos rfl] at h;cases h;exact d
     simp(disch:=omega)[e,bA,av,Z,o,w,A,B,C,-aab]
     exact this
    | true =>
     refine CQ (iJ r (zF rfl) d _ J) ?_;obtain⟨mC,fA⟩:=oq r (zF rfl) d;have hf:=zwB e O (by rw[I,if_pos rfl]) d
     have K:(s_ L p q live).find? hit=some r:=by rw[s_,ab7,hf];rfl
     simp[K,PQ mC fA]
 .have M:i=18:=an
  subst M;have S:=znz O;simp;refine aO 12 (λk=>[(0,.yld id),(40,.int .u32 k)]) (λ_=>H) (λk=>∀j<k,∀r,(some (mK j):Option (List Nat))=some r->hit r=false) ?_ ?_
  .simp[av,D,o]
  intro k hk vp
  by_cases u:k<12
  .have hu:[V.int .u32 0,.int .u32 0]=[V.int .u32 0,.int .u32 0]:=rfl
   have hs:∀i,ak (H.length+1) (H++[some (.cells (ax .u32 (w8 k i)))])=H++[some (.cells (ax .u32 (w8 k i)))]:=λi=>by
    have:=(h.app (r:=[some (.cells (ax .u32 (w8 k i)))]) λn=>by simp[ay.cl]).shut.self;simpa using this
   simp(disch:=omega)[bC,kk,k0];refine aO 34 (λi=>[(0,.yld id),(9,.int .u32 k),(10,.ptr H.length 0),(40,.int .u32 k),(43,.int .i64 i)]) (λi=>H++[some (.cells (ax .u32 (w8 k i)))]) (λ_=>True) ?_ ?_
   .have:=hs 0;rw[show w8 k 0=aR 34 by simp[w8]] at this;simp[av,this,w8,show id<H.length+1 by omega]
   intro i hi _
   by_cases R:i<34
   .have r3:gn (i:Int) 3=((i%3:Nat):Int):=wT (b:=3);have r2:gn (i:Int) 2=((i%2:Nat):Int):=wT (b:=2);have hg:(((i%3:Nat):Int)<0)=False:=ah8;have s3:jz .u32 2863311530 ((i%3:Nat):Int)=((2863311530*2^(i%3)%4294967296:Nat):Int):=N5 (a:=2863311530) an;have c1:fc .u32 i=(i:Int):=sM an;have c2:fc .u32 ((i+1:Nat):Int)=((i+1:Nat):Int):=sM an;have c3:fc .u32 ((i%2:Nat):Int)=((i%2:Nat):Int):=sM an
    have m1:dS .u32 7 (i:Int)=((7*i:Nat):Int):=SG (a:=7) an
    have a1:aC .u32 3 ((7*i:Nat):Int)=((3+7*i:Nat):Int):=by unfold aC;rw[show(3:Int)+((7*i:Nat):Int)=((3+7*i:Nat):Int) by omega];exact sM an
    have m2:dS .u32 16843009 ((i+1:Nat):Int)=((16843009*(i+1):Nat):Int):=SG (a:=16843009) an;have m3:dS .u32 i 2654435769=((i*2654435769%4294967296:Nat):Int):=zIz (b:=2654435769)
    have hc:∀f:Nat,f=2863311530*2^(i%3)%4294967296->∀g:Nat,g=i*2654435769%4294967296->[V.int .u32 0,.int .u32 4294967295,.int .u32 1,.int .u32 2147483648,.int .u32 ((3+7*i:Nat):Int),.int .u32 ((16843009*(i+1):Nat):Int),.int .u32 2,.int .u32 65535,.int .u32 1431655765,.int .u32 f,.int .u32 ((i%2:Nat):Int),.int .u32 g]=ax .u32 (y_ i):=by rintro f rfl g rfl;rfl
    obtain⟨f,N⟩:=bb (2863311530*2^(i%3)%4294967296);obtain⟨g,PW⟩:=bb (i*2654435769%4294967296);have hc:=hc f N g PW;rw[<-N] at s3;rw[<-PW] at m3;have hl:ax .u32 (aR 12)=[V.int .u32 0,.int .u32 0,.int .u32 0,.int .u32 0,.int .u32 0,.int .u32 0,.int .u32 0,.int .u32 0,.int .u32 0,.int .u32 0,.int .u32 0,.int .u32 0]:=rfl;have lc:(y_ i).length=12:=rfl;have cg:=su .u32 (y_ i) k (by rw[lc];exact u)
    have hm:(y_ i)[k]'(by rw[lc];exact u)=(y_ i).getD k 0:=by simp[aa2,aah (show k<(y_ i).length from u)]
    rw[hm] at cg;have l:=wQ .u32 (w8 k i) i ((y_ i).getD k 0) (by rw[zoO hi];exact R);rw[zB9 R] at l;obtain⟨cv,yB⟩:=bb ((y_ i).getD k 0);rw[<-yB] at cg l;simp(disch:=omega)[bC,r3,r2,hg,s3,c1,bA,c2,c3,m1,a1,m2,m3,hl,-aab,-aa7,-abW];have lr:=zoO hi (k:=k);have hw:=zoO (show i+1<=34 from R) (k:=k);rw[hc,cg];simp(disch:=omega)[bC,aB,R,show k<=11 by omega,kk,k0,lr,l,hs,av,bA,show id<H.length+1 by omega,-aab]
   .have M:i=34:=an
    subst M
    have J:∀n,([some (ay.cells (ax .u32 (mK k)))]:ae).map (aaU (ay.cl n))=[some (ay.cells (ax .u32 (mK k)))]:=λn=>by simp[ay.cl]
    have iy:mK k∈s_ L p q live:=by rw[s_,aaE];exact .inr (abM.2 ⟨k,aaK.2 u,rfl⟩)
    have rl:=JL k;have rt:=eA (k:=.u32) rl
    have ck:aC .u32 k 1=((k+1:Nat):Int):=by unfold aC;rw[show(k:Int)+1=((k+1:Nat):Int) by omega];exact sM an
    simp[zEF,rl,rt]
    cases d:hit (mK k) with
    | false =>
     refine CQ (x_ _ iy d _ J) ?_
     have hn:∀j<k+1,∀r,(some (mK j):Option (List Nat))=some r->hit r=false:=λj E r c=>by
      rcases aa_.1 E with h|rfl
      .exact vp j h r c
      .cases c;exact d
     simp(disch:=omega)[u,ck,av,Z,o,-aab]
     simpa using hn
    | true =>
     refine CQ (iJ _ iy d _ J) ?_;obtain⟨mC,fA⟩:=oq _ iy d;have hB:=zwB u vp rfl d
     have K:(s_ L p q live).find? hit=some (mK k):=by rw[s_,ab7,S,hB];rfl
     simp[K,PQ mC fA]
  .have M:k=12:=an
   subst M;have hB:=znz vp
   have K:(s_ L p q live).find? hit=none:=by rw[s_,ab7,S,hB];rfl
   simp[K,D]
end
open Go Go.RowKit
variable {G:aL}
def Cf(p q:List Int)(live i:Nat):Bool:=Ad live i&&(p.getD i 0 !=q.getD i 0)
def wy(p q s t:List Int)(live:Nat):Bool:=!((aaI 18).any (Cf p q live))&&decide (s=t)
def zoP{p q s t:List Int}{live:Nat}:wy p q s t live=true↔(∀i<18,Cf p q live i=false)/\s=t:=by simp[wy]
def zCb{p q s t:List Int}{live i:Nat}(hi:i<18)(h:Cf p q live i=true):wy p q s t live=false:=by have:(aaI 18).any (Cf p q live)=true:=abX.2 ⟨i,aaK.2 hi,h⟩;simp only[wy,this,Bool.not_true,ab5]
def zuo{p q s t:List Int}{live:Nat}(h:s≠t):wy p q s t live=false:=by simp[wy,h]
def zG2[cQ G][eT G](p q s t:List Int)(live:Nat)(K:live<4294967296)(u:p.length=18)(v:q.length=18)(X:s.length<=1000000) :
  FP G 309 [.agg (vcs p s .no),.agg (vcs q t .no),.int .u32 live] (.bool (wy p q s t live)):=by
 refine bw eT.ae6 (aaf rfl) ?_;have m:=GZ (st:=s) (tk:=.no) u;have f:=GZ (st:=t) (tk:=.no) v
 have g:∀n,aZ n (vcs p s .no)=vcs p s .no:=λn=>by rw[g9,vcs];simp[nA,aas,V.cl,Tk.cl]
 have k:∀n,aZ n (vcs q t .no)=vcs q t .no:=λn=>by rw[g9,vcs];simp[nA,aas,V.cl,Tk.cl]
 have L:(vcs p s .no).map V.jA=vcs p s .no:=by simp[vcs,nA,aas,V.jA]
 have M:(vcs q t .no).map V.jA=vcs q t .no:=by simp[vcs,nA,aas,V.jA]
 have sp:=zwr (st:=s) (tk:=.no) u;have r:=zwr (st:=t) (tk:=.no) v;obtain⟨P,E⟩:=bb (vcs p s .no);obtain⟨Q,F⟩:=bb (vcs q t .no);simp only[<-E,<-F] at m f g k L M sp r |-;simp;refine aO 18 (λi=>[(2,.int .u32 live),(3,.ptr 0 0),(4,.ptr 1 0),(10,.int .i64 i)]) (λ_=>[some (.cells P),some (.cells Q)]) (λi=>∀j<i,Cf p q live j=false) ?_ ?_
 .simp[av,ak,g,k]
 intro i hi H
 by_cases b:i<18
 .have N:=zzZ (G:=G) live i K an;obtain⟨x,c⟩:=bb (p.getD i 0);obtain⟨y,d⟩:=bb (q.getD i 0)
  have O:x=p[i]'(by omega):=by rw[c];simp[aa2,aah (show i<p.length by omega)]
  have R:y=q[i]'(by omega):=by rw[d];simp[aa2,aah (show i<q.length by omega)]
  have w:=JD (p:=p) (st:=s) (tk:=.no) u b;have z:=JD (p:=q) (st:=t) (tk:=.no) v b;rw[<-O,<-E] at w;rw[<-R,<-F] at z
  have o:Cf p q live i=(Ad live i&&(x !=y)):=by rw[c,d];rfl
  have I:Cf p q live i=false->∀j<i+1,Cf p q live j=false:=λS j T=>by
   rcases aa_.1 T with h|rfl
   .exact H j h
   .exact S
  simp(disch:=omega)[bC];refine aw N ?_
  cases J:Ad live i with
  | false =>
   rw[J,ab5] at o;simp(disch:=omega)[b,bA,av,ak,g,k,-aab]
   exact I o
  | true =>
   rw[J,abb] at o
   by_cases a:x=y
   .have A:Cf p q live i=false:=by rw[o,a];simp
    simp(disch:=omega)[bC,aB,m,f,w,z,a,b,bA,av,ak,g,k,-aab];exact I A
   .have A:Cf p q live i=true:=by rw[o];simp[a]
    simp(disch:=omega)[bC,aB,m,f,w,z,ki a,zCb b A]
 .have e:i=18:=an
  subst e;simp[m,f,sp,r]
  by_cases l:s.length=t.length
  .simp[l,m,sp];refine aO s.length (λi=>[(4,.ptr 1 0),(36,.vs (ints .i64 s) .no),(37,.int .i64 s.length),(38,.int .i64 i)]) (λ_=>[some (.cells P),some (.cells Q)]) (λi=>s.take i=t.take i) ?_ ?_
   .simp[av,ak,g,k,l]
   intro i hi B
   by_cases b:i<s.length
   .have C:(ints .i64 s)[i]?=some [.int .i64 s[i]]:=by simp[b]
    have D:(ints .i64 t)[i]?=some [.int .i64 (t[i]' an)]:=by simp[show i<t.length by omega]
    obtain⟨x,c⟩:=bb (s[i]);obtain⟨y,d⟩:=bb (t[i]'(by omega));rw[<-c] at C;rw[<-d] at D;have c:=c.symm;have d:=d.symm
    by_cases a:x=y
    .have U:s.take (i+1)=t.take (i+1):=by rw[abf,abf,B,aah b,aah (show i<t.length by omega),c,d,a]
     simp(disch:=omega)[bC,l,f,r,C,D,a,bA,av,ak,g,k,U,show i<t.length by omega,-aab]
    .have e:s≠t:=by rintro rfl;exact a (c.symm.trans d)
     simp(disch:=omega)[bC,l,f,r,C,D,ki a,zuo e]
   .have e:i=s.length:=an
    subst e;rw[abd,l,abd] at B;simp[zoP.2 ⟨H,B⟩]
  .have e:s≠t:=λh=>l (by rw[h]);have W:((s.length:Int) !=(t.length:Int))=true:=ki an;simp[W,zuo e]
mutual
def V.wz{n m:Nat}(h:n<=m):∀v:V,(v.cl m).cl n=v.cl n
 | .ptr id b=>by
  by_cases a:id<m
  .simp only[V.cl,if_pos a]
  .simp only[V.cl,if_neg a,if_neg (show¬id<n by omega)]
 | .rs id b k e=>by
  by_cases a:id<m
  .simp only[V.cl,if_pos a]
  .simp only[V.cl,if_neg a,if_neg (show¬id<n by omega)]
 | .mp id=>by
  by_cases a:id<m
  .simp only[V.cl,if_pos a]
  .simp only[V.cl,if_neg a,if_neg (show¬id<n by omega)]
 | .yld id=>by
  by_cases a:id<m
  .simp only[V.cl,if_pos a]
  .simp only[V.cl,if_neg a,if_neg (show¬id<n by omega)]
 | .gs id k=>by
  by_cases a:id<m
  .simp only[V.cl,if_pos a]
  .simp only[V.cl,if_neg a,if_neg (show¬id<n by omega)]
 | .vs g tk=>by
  simp only[V.cl]
  cases tk with
  | own q =>
   by_cases a:q<m
   .simp only[Tk.cl,if_pos a]
   .simp only[Tk.cl,if_neg a,if_neg (show¬q<n by omega)]
  | no=>rfl
  | full=>rfl
 | .fn f c=>by simp only[V.cl,JN h c]
 | .agg d=>by simp only[V.cl,JN h d]
 | .bc d=>by simp only[V.cl,JN h d]
 | .undef=>rfl
 | .mq=>rfl
 | .any=>rfl
 | .int _ _=>rfl
 | .bool _=>rfl
 | .str _=>rfl
 | .nilp=>rfl
 | .cptr _=>rfl
 | .nilf=>rfl
 | .nilm=>rfl
def JN{n m:Nat}(h:n<=m):∀cs:List V,aZ n (aZ m cs)=aZ n cs
 | []=>rfl
 | c::cs=>by simp only[aZ,V.wz h c,JN h cs]
end
def ay.wz{n m:Nat}(h:n<=m)(b:ay):(b.cl m).cl n=b.cl n:=by
 cases b with
 | cells a=>simp only[ay.cl,JN h]
 | grow a c d=>simp only[ay.cl,JN h]
 | zone k=>rfl
 | jx a=>simp only[ay.cl,JN h]
 | map e=>simp only[ay.cl,acY];congr 1;exact ab0 λp _=>by simp only[acP,V.wz h]
 | dF s pos=>rfl
 | loop f g as bo st=>simp only[ay.cl,acY];congr 1;exact ab0 λp _=>by simp only[acP,V.wz h]
def zxE{n m:Nat}(h:n<=m)(H:ae):ak n (ak m H)=ak n H:=by
 unfold ak;rw[<-adf,acY,List.take_take,acD h]
 exact ab0 λb _=>by cases b with
  | none=>rfl
  | some b=>simp only[acP,ab2,ay.wz h]
def zuO{H1:ae}{n k:Nat}{e0:List (Nat×V)}{ps:List Nat}{as bo:bg}{st:AI}(h:(ak n H1)[k]?=some (some (.loop e0 ps as bo st))):∃c,H1[k]?=some (some (.loop c ps as bo st)):=by
 unfold ak at h;rw[abA] at h
 by_cases d:k<n
 .rw[List.getElem?_take_of_lt d] at h
  cases a:H1[k]? with
  | none=>rw[a] at h;cases h
  | some b =>
   rw[a] at h
   cases b with
   | none=>simp at h
   | some b =>
    cases b<;>simp[ay.cl] at h
    obtain⟨_,rfl,rfl,rfl,rfl⟩:=h;exact⟨_,rfl⟩
 .rw[List.getElem?_take_eq_none an] at h;cases h
def PX{f:Nat}{cap:List V}{l ps:List Nat}{as bo:bg}{r:V}{H H2:ae}{e0:List (Nat×V)}{g:List Nat}{i j:bg}{st:AI}{x:Ex}{K:List Kt}{e:Env}{Q:Ex->Env->ae->Prop}
  (h:SF G f (.yld H.length::cap) (H++[some (.loop (look e l) ps as bo .ready)]) r H2)
  (b:H2[H.length]?=some (some (.loop e0 g i j st))) (a:st=.ready/\x=.nx\/st=.done x/\x≠.nx) (c:Wr G x K e (ak H.length H2) Q):XC G (.fn f cap) l ps as bo K e H Q:=by
 obtain⟨n,H1,k,_,d⟩:=h;rw[<-d] at b;obtain⟨o,m⟩:=zuO b;refine zAI k m a ?_;rw[<-d,zxE ir] at c;exact c
open Go Go.RowKit
variable {G:aL}
def dP(c:Int):Option (List Nat)->List V
 | some r=>.int .i64 c::((wq r).cs++(mY (r.drop 18)).cs)
 | none=>.int .i64 c::(ax .u32 (aR 20)++ax .u64 (aR 7))
def ua:bg:=.region 1 [⟨some 13,.alloc 0 (ax .u32 (aR 34)),none⟩,⟨none,.store 34 (.t 13) (.t 46),none⟩]
def ub:bg:=.block 1 (.seq (.region 2 [⟨some 48,.load 34 true false (.t 13),none⟩,⟨some 49,.pcall 294 [.t 48],none⟩,⟨some 47,.mv (.t 49),none⟩,⟨some 50,.ext 0 (.t 47),none⟩,⟨some 51,.ext 1 (.t 47),none⟩,⟨some 14,.alloc 0 (ax .u32 (aR 18)),none⟩,
 ⟨some 15,.alloc 1 [.int .u32 0,.int .u32 0,.int .u64 0,.int .u64 0,.int .u64 0,.int .u64 0,.int .u64 0,.int .u64 0,.int .u64 0],none⟩,⟨none,.store 18 (.t 14) (.t 50),none⟩,⟨none,.store 9 (.t 15) (.t 51),none⟩])
 (.seq (.keep [3,4,5,6,7,14,15]) (.seq (.region 0 [⟨some 52,.load 1 false false (.t 3),none⟩,⟨some 53,.load 1 false false (.t 4),none⟩,⟨some 54,.load 1 false false (.t 5),none⟩,⟨some 55,.load 18 true false (.t 14),none⟩,⟨some 56,.load 9 true false (.t 15),none⟩,
  ⟨some 57,.pcall 308 [.t 52,.t 53,.t 54,.t 55,.t 56],none⟩]) (.seq (.keep [6,7,14,15,57]) (.cond (.t 57) (.seq (.region 0 [⟨some 58,.load 18 true false (.t 14),none⟩,⟨some 59,.load 9 true false (.t 15),none⟩,
   ⟨some 60,.build (dP 0 none) [(0,1,.c (.int .i64 1)),(1,18,.t 58),(19,9,.t 59)],none⟩,⟨none,.store 28 (.t 6) (.t 60),none⟩,⟨none,.store 1 (.t 7) (.c (.int .i64 0)),none⟩]) .ret) .skip)))))
def jJ:List (Nat×V):=[(3,.ptr 0 0),(4,.ptr 1 0),(5,.ptr 2 0),(6,.ptr 3 0),(7,.ptr 4 0)]
structure Cg (N:ae) (v w:List af) (live:Nat):Prop where
 b0:N[0]?=some (some (.cells [.vs (IL v) .no]))
 b1:N[1]?=some (some (.cells [.vs (IL w) .no]))
 b2:N[2]?=some (some (.cells [.int .u32 live]))
 b3:N[3]?=some (some (.cells (dP 0 none)))
 b4:N[4]?=some (some (.cells [.int .i64 0]))
 lo:N[14]?=some (some (.loop jJ [46] ua ub .ready))
 shut:iq N
def Cg.app{N:ae}{v w:List af}{live:Nat}(h:Cg N v w live){X:ae}(a:∀n,X.map (aaU (ay.cl n))=X):Cg (N++X) v w live:=by
 have b:=(aaa.1 h.lo).1;refine⟨?_,?_,?_,?_,?_,?_,h.shut.app a⟩
 all_goals rw[aai an]
 .exact h.b0
 .exact h.b1
 .exact h.b2
 .exact h.b3
 .exact h.b4
 .exact h.lo
def jK(N:ae)(r:List Nat):ae:=((N.set 3 (some (.cells (dP 1 (some r))))).set 4 (some (.cells [.int .i64 0]))).set 14 (some (.loop jJ [46] ua ub (.done .ret)))
def zEG{N X:ae}{r:List Nat}(h:14<N.length):jK (N++X) r=jK N r++X:=by unfold jK;rw[aaQ _ _ an,aaQ _ _ (by simp;omega),aaQ _ _ (by simp;omega)]
def zoQ{N:ae}(h:iq N)(g:14<N.length)(r:List Nat):iq (jK N r):=by
 intro m b
 have c:N.length<=m:=by simpa[jK] using b
 have d:aZ m (dP 1 (some r))=dP 1 (some r):=by simp[dP,g9,V.cl,St.cs,Da.cs,ax,aas]
 unfold jK;rw[acg,acg,acg,h m c]
 have a:(ay.loop jJ [46] ua ub (.done .ret)).cl m=.loop jJ [46] ua ub (.done .ret):=by simp[ay.cl,jJ,V.cl,show 0<m by omega,show 1<m by omega,show 2<m by omega,show 3<m by omega,show 4<m by omega]
 have e:(ay.cells (dP 1 (some r))).cl m=.cells (dP 1 (some r)):=by rw[ay.cl,d]
 have f:(ay.cells [V.int .i64 0]).cl m=.cells [.int .i64 0]:=by simp[ay.cl,aZ,V.cl]
 simp only[ab2,a,e,f]
def zCc[dT G][dy G][aE G][aD G][bQ G][dx G][cW G][aQ G][cY G][cZ G][bY G][cQ G]
  {N:ae} {v w:List af} {live:Nat} (h:Cg N v w live) (Y:v.length<=maxLen) (Z:w.length<=maxLen) (hk:∀x∈v,x.k<4294967296) (nO:∀x∈w,x.k<4294967296) (gT:live<4294967296)
  (hv:a_ v=true) (hw:a_ w=true) {r:List Nat} (e:r.length=34) (C:∀x∈r,x<4294967296) {t:Bool} (ht:wu v w live (wq r) (mY (r.drop 18))=t) :
  YS G 14 [.agg (ax .u32 r)] N (!t) (if t=true then jK N r else N):=by
 have E:=(aaa.1 h.lo).1
 obtain⟨b,H',hy,rfl,rfl⟩:=zFq (R:=λb H'=>b=(!t)/\H'=if t=true then jK N r else N) (G:=G) (args:=[.agg (ax .u32 r)]) h.lo rfl (by
  have rt:=eA (k:=.u32) e;have rd:(ax .u32 r).drop 34=[]:=aan (by simp[e]);have kk:∀r:ae,(N++r)[N.length]?=r[0]?:=λr=>oW rfl;have k0:∀(r:ae) x,(N++r).set N.length x=N++r.set 0 x:=λr x=>tY rfl x
  have F:∀r:ae,(N++r)[14]?=some (some (.loop jJ [46] ua ub .ready)):=λr=>by rw[aai E];exact h.lo
  simp[ua,jJ,sI,k0,e];refine⟨_,_,_,_,F _,?_⟩;obtain⟨B,g⟩:=bb (N.set 14 (some (.loop jJ [46] ua ub .busy)))
  have d:B.length=N.length:=by rw[g];simp
  rw[aaQ _ _ E,<-g];have L9:∀r:ae,(B++r)[N.length]?=r[0]?:=λr=>oW d;have ha:∀r:ae,(B++r)[N.length+1]?=r[1]?:=λr=>rW d 1;have j:∀r:ae,(B++r)[N.length+2]?=r[2]?:=λr=>rW d 2;have M:∀(r:ae) x,(B++r).set (N.length+1) x=B++r.set 1 x:=λr x=>y6 d 1 x;have H:∀(r:ae) x,(B++r).set (N.length+2) x=B++r.set 2 x:=λr x=>y6 d 2 x;have hb:∀r:ae,(B++r)[N.length+1+1]?=r[2]?:=j;have hc:∀(r:ae) x,(B++r).set (N.length+1+1) x=B++r.set 2 x:=H
  have O:∀(a b c:Option ay) (r:ae) h,(B++a::b::c::r)[N.length+1+1]'h=c:=λa b c r h=>(aaa.1 (j (a::b::c::r))).2
  have look:∀{p:Nat} {c:List V},N[p]?=some (some (.cells c))->p≠14->∀r:ae,(B++r)[p]?=some (some (.cells c)):=fun{p c} P az r=>by
   rw[aai (by rw[d];exact(aaa.1 P).1),g,aaH (Ne.symm az)];exact P
  have q0:=look h.b0 ah9;have q1:=look h.b1 ah9;have q2:=look h.b2 ah9;have I:=look h.b3 ah9;have J:∀(r:ae) h,(B++r)[0]'h=some (.cells [.vs (IL v) .no]):=λr h=>(aaa.1 (q0 r)).2;have K:∀(r:ae) h,(B++r)[1]'h=some (.cells [.vs (IL w) .no]):=λr h=>(aaa.1 (q1 r)).2;have Uv:∀(r:ae) h,(B++r)[2]'h=some (.cells [.int .u32 live]):=λr h=>(aaa.1 (q2 r)).2;have L_:∀(r:ae) h,(B++r)[3]'h=some (.cells (dP 0 none)):=λr h=>(aaa.1 (I r)).2
  have Q:=zww e C;have T:=PK (w:=r.drop 18) (by simp[e]) (λx hx=>C x (aa6 hx));have f:=zxD (G:=G) r e C;have q:=zz0 (G:=G) v w live (wq r) (mY (r.drop 18)) Y Z hk nO gT Q T;rw[hv,hw,ht] at q;have s:=fi Q;have u:=MB T;have U:dP 1 (some r)=.int .i64 1::((wq r).cs++(mY (r.drop 18)).cs):=rfl;obtain⟨S,z⟩:=bb ((wq r).cs);obtain⟨D,A⟩:=bb ((mY (r.drop 18)).cs)
  have Sk:∀n,aZ n S=S:=λn=>by rw[z];exact mb _ n
  have Dk:∀n,aZ n D=D:=λn=>by rw[A];exact DE _ n
  have Sn:S.map V.jA=S:=by rw[z];exact PM _
  have Dn:D.map V.jA=D:=by rw[A];exact Kb _
  simp only[FL,SV,DV,abb] at f q;rw[<-z,<-A] at f q U;rw[<-z] at s;rw[<-A] at u;have St:=aaj (i:=18) (l:=S) an;have W:=aaj (i:=9) (l:=D) an;have Sd:S.drop 18=[]:=aan an;have Dd:D.drop 9=[]:=aan an;obtain⟨m,L⟩:=bb (dP 0 none)
  have Ma:m.length=28:=by rw[L];rfl
  simp only[<-L] at I L_;simp[ub,d,e,rt,<-L];refine aw f ?_;simp[d,M,H];simp[d,O,M,H,s,u,St,W,Sk,Dk,Sn,Dn,J,K,Uv];refine aw q ?_
  have o:∀r:ae,(B++r)[14]?=some (some (.loop jJ [46] ua ub .busy)):=λr=>by
   rw[aai an,g,abQ an]
  cases t with
  | false =>
   have iT:∀r:ae,ak N.length ((B++r).set 14 (some (.loop jJ [46] ua ub .ready)))=N:=λr=>by
    rw[aaQ _ _ an,g,adh,Eo h.lo];exact h.shut.back r
   simp
   exact⟨_,_,_,_,o _,iT _⟩
  | true =>
   simp[d,O,s,u,St,W];have dr:(S++m.drop 19).drop 27=[]:=aan (by simp;omega)
   have ln:(V.int .i64 1::(S++D)).length=28:=by simp;omega
   have tn:(S++D).take 27=S++D:=aaj (by simp;omega);have dn:m.drop 28=[]:=aan an;have q4:=look h.b4 ah9;have G3:∀(r:ae) x,(B++r).set 3 x=B.set 3 x++r:=λr x=>aaQ _ _ an;have G4:∀(r:ae) y x,(B.set 3 y++r).set 4 x=(B.set 3 y).set 4 x++r:=λr y x=>aaQ _ _ (by simp;omega)
   have X:∀(r:ae) y,(B.set 3 y++r)[4]?=some (some (.cells [.int .i64 0])):=λr y=>by
    have:=q4 [];rw[aai (by simp;omega),aaH ah9];simpa using this
   have wB:∀(r:ae) y h,(B.set 3 y++r)[4]'h=some (.cells [.int .i64 0]):=λr y h=>(aaa.1 (X r y)).2;simp[Ma,dr,dn,s,u,I,G3,G4,X];refine⟨jJ,[46],ua,ub,?_,?_⟩
   .have:=o [];rw[abw] at this;rw[aai (by simp;omega),aaH ah9,aaH ah9];exact this
   .have he:((B.set 3 (some (ay.cells (V.int IntKind.i64 1::(S++D))))).set 4 (some (ay.cells [V.int IntKind.i64 0]))).set 14 (some (.loop jJ [46] ua ub (.done .ret)))=jK N r:=by rw[g,<-U,ab8 _ _ (show(14:Nat)≠3 by decide),ab8 _ _ (show(14:Nat)≠4 by decide),adh];rfl
    rw[aaQ _ _ (by simp;omega),he];have:=(zoQ h.shut E r).back [some (ay.cells (ax .u32 r)),some (ay.cells S),some (ay.cells D)]
    rwa[show(jK N r).length=N.length by simp[jK]] at this)
 exact hy
noncomputable def ey(v w:List af)(live:Nat):Int×Option (List Nat) :=
 if(a_ v&&a_ w)=true then
  if wy (aK [] v).p (aK (aK [] v).L w).p (aK [] v).st (aK (aK [] v).L w).st live=true then(0,none)
  else match(s_ (aK (aK [] v).L w).L (aK [] v).p (aK (aK [] v).L w).p live).find? λr=>wu v w live (wq r) (mY (r.drop 18)) with
   | some r=>(1,some r)
   | none=>(2,none)
 else(0,none)
def Uw(a b c d e:List V):ae:=[some (.cells a),some (.cells b),some (.cells c),some (.cells d),some (.cells e),some (.map []),some (.cells [.vs [] (.own 7),.mp 5]),some (.zone 0)]
def zEH{a b c d e:List V}(f:∀n,aZ n a=a)(g:∀n,aZ n b=b)(i:∀n,aZ n c=c)(hd:∀n,aZ n d=d)(j:∀n,aZ n e=e):Bk (Uw a b c d e) 6 7 5 []:=by refine⟨rfl,rfl,rfl,λn k=>?_,λa h=>(by cases h),ah9⟩;simp only[Uw,aap,ach] at k;simp[Uw,ay.cl,f,g,i,hd,j,aZ,V.cl,Tk.cl,show 7<n by omega,show 5<n by omega]
def zG3[cB G](a b c d e:List V):bE G (.F 256 [] [some (.cells a),some (.cells b),some (.cells c),some (.cells d),some (.cells e)] (.ptr 6 0) [some (.cells a),some (.cells b),some (.cells c),some (.cells d),some (.cells e),some (.map []),some (.cells [.vs [] .full,.mp 5])]):=by refine fg cB.aeC (aaf rfl) ?_;simp
section
variable {H:ae} {b z m:Nat} {L:List Nd}
noncomputable def yb(L:List Nd)(w:List af):List V:=if a_ w=true then vcs (aK L w).p (aK L w).st .no else vcs (abt 18 0) [] .full
noncomputable def Ae(L:List Nd)(w:List af):List Nd:=if a_ w=true then(aK L w).L else L
def zwC[dT G][dy G][aE G][aD G][aQ G][au G][bJ G][aN G][cu G](w:List af)(h:Bk H b z m L)(hi:Inv L)(e:L.length<=800000)(c:w.length<=maxLen)(d:∀x∈w,x.k<4294967296) :
  SF G 296 [.ptr b 0,FL w] H (.bc [.agg (yb L w),.bool (a_ w)]) (dE H b z m (Ae L w)):=by
 cases a:a_ w with
 | true =>
  have:=zNs (G:=G) w h hi e c d a
  simpa only[yb,Ae,a,if_true] using this
 | false =>
  have:=zNr (G:=G) w h c d a;simpa only[yb,Ae,a,aau,if_false,h.gA] using this
def zs4(hi:Inv L){w:List af}(a:∀x∈w,x.k<4294967296):(yb L w).length=19:=by
 unfold yb;split
 .exact GZ (Cb hi w a).len
 .rfl
def zwD(w:List af)(n:Nat):aZ n (yb L w)=yb L w:=by
 unfold yb
 split<;>(rw[g9,vcs];simp[nA,aas,V.cl,Tk.cl])
def zyK(hi:Inv L){w:List af}(a:∀x∈w,x.k<4294967296):Inv (Ae L w):=by
 unfold Ae;split
 .exact(Cb hi w a).ext.inv
 .exact hi
def zyL(hi:Inv L){w:List af}(b:∀x∈w,x.k<4294967296):(Ae L w).length<=L.length+114:=by
 unfold Ae;split
 .rename_i a
  have c:w.length<=32:=by simp only[a_,aae,decide_eq_true_eq] at a;exact a.1
  have:=(Cb hi w b).ext.len;omega
 .omega
end
def zwE(c:Int):(dP c none).length=28:=rfl
def Ux(c:Int)(o:Option (List Nat))(n:Nat):aZ n (dP c o)=dP c o:=by cases o<;>simp[dP,g9,V.cl,St.cs,Da.cs,ax,aas]
def zyM(c:Int)(o:Option (List Nat)):(dP c o).map V.jA=dP c o:=by cases o<;>simp[dP,V.jA,St.cs,Da.cs,ax,aas]
def zCd(c:Int):(dP c none).take 28=dP c none:=aaj (by rw[zwE];exact aaF _)
def zG4[eT G](H:ae)(b live:Nat)(a c:List V)(k1:∀n,aZ n a=a)(k2:∀n,aZ n c=c)(d:a.map V.jA=a)(e:c.map V.jA=c) :
  bE G (.F 311 [.ptr b 0,.agg a,.agg c,.int .u32 live] H (.fn 310 [.ptr (H.length+3) 0,.ptr H.length 0,.ptr (H.length+1) 0,.ptr (H.length+2) 0])
   (H++[some (.cells [.ptr b 0]),some (.cells a),some (.cells c),some (.cells [.int .u32 live])])):=by
 refine fg eT.ae8 (aaf rfl) ?_;simp
def zup[dT G][dy G][aE G][aD G][bQ G][dx G][cW G][aQ G][cY G][cZ G][bY G][cu G][bS G][au G][CB:dU G][cB G][aN G][bZ G][cQ G][eT G]
  (v w:List af) (live:Nat) (hf:v.length<=maxLen) (hg:w.length<=maxLen) (H:∀x∈v,x.k<4294967296) (I:∀x∈w,x.k<4294967296) (gT:live<4294967296) :
  FP G 312 [FL v,FL w,.int .u32 live] (.bc [.agg (dP (ey v w live).1 (ey v w live).2),.int .i64 (if(a_ v&&a_ w)=true then 0 else 1)]):=by
 haveI:bJ G:=CB.tobJ
 refine bw eT.ae9 (aaf rfl) ?_;obtain⟨Z,hZ⟩:∃Z:List V,Z=vcs (abt 18 0) [] .full:=⟨_,rfl⟩
 have lZ:Z.length=19:=by rw[hZ];rfl
 have ew:Z.drop 19=[]:=aan an
 have JE:=zJE.trans hZ.symm
 obtain⟨m,B⟩:∃m:List V,m=dP 0 none:=⟨_,rfl⟩
 have hm:V.int .i64 0::(ax .u32 (aR 20)++ax .u64 (aR 7))=m:=by rw[B];rfl
 have Ma:m.length=28:=by rw[B];rfl
 have Uy:∀n,aZ n m=m:=λn=>by rw[B];simp[dP,g9,V.cl,ax,aas]
 have O:=zEH (a:=[.vs (IL v) .no]) (b:=[.vs (IL w) .no]) (c:=[.int .u32 live]) (d:=m) (e:=[.int .i64 0]) (λn=>by simp[aZ,V.cl,Tk.cl]) (λn=>by simp[aZ,V.cl,Tk.cl]) (λn=>by simp[aZ,V.cl]) Uy (λn=>by simp[aZ,V.cl]);obtain⟨j,D⟩:=bb (Uw [.vs (IL v) .no] [.vs (IL w) .no] [.int .u32 live] m [.int .i64 0]);rw[<-D] at O
 have W:j.length=8:=by rw[D];rfl
 have t0:∀r,ak 8 (j++r)=j:=λr=>by have:=O.shut.back r;rwa[W] at this
 have a8:∀r:ae,(j++r)[8]?=r[0]?:=λr=>oW W;have a9:∀r:ae,(j++r)[9]?=r[1]?:=λr=>rW W 1;have b8:∀(r:ae) x,(j++r).set 8 x=j++r.set 0 x:=λr x=>tY W x;have b9:∀(r:ae) x,(j++r).set 9 x=j++r.set 1 x:=λr x=>y6 W 1 x
 have o0:∀r:ae,(j++r)[0]?=some (some (.cells [.vs (IL v) .no])):=λr=>by rw[D];rfl
 have o1:∀r:ae,(j++r)[1]?=some (some (.cells [.vs (IL w) .no])):=λr=>by rw[D];rfl
 have o3:∀r:ae,(j++r)[3]?=some (some (.cells m)):=λr=>by rw[D];rfl
 have o4:∀r:ae,(j++r)[4]?=some (some (.cells [.int .i64 0])):=λr=>by rw[D];rfl
 have ho:Bk (j++[none]) 6 7 5 []:=O.app λn=>by simp
 simp[FL,hm];refine vh (zG3 [.vs (IL v) .no] [.vs (IL w) .no] [.int .u32 live] m [.int .i64 0]) ir ?_;simp;rw[show([some (.cells [.vs (IL v) .no]),some (.cells [.vs (IL w) .no]),some (.cells [.int .u32 live]),some (.cells m),some (.cells [.int .i64 0]),some (.map []),some (.cells [.vs [] (.own 7),.mp 5]),some (.zone 0),none]:ae)=j++[none] from by rw[D];rfl];obtain⟨o,vo⟩:=bb (Ae [] v)
 obtain⟨f,Uz⟩:=bb (yb [] v)
 have i1:Inv o:=by rw[vo];exact zyK Inv.nil H
 have z1:o.length<=114:=by rw[vo];simpa using zyL Inv.nil H
 have x1:f.length=19:=by rw[Uz];exact zs4 Inv.nil H
 have c1:∀n,aZ n f=f:=λn=>by rw[Uz];exact zwD v n
 have mT:=zwC (G:=G) v ho Inv.nil ah9 hf H;rw[<-vo,<-Uz,O.cA] at mT;obtain⟨U,hU⟩:=bb (dE j 6 7 5 o)
 have UA:Bk U 6 7 5 o:=by rw[hU];exact O.to i1 an
 rw[<-hU] at mT
 have Y:U.length=8:=by rw[hU,sS,W]
 have G6:∀{p:Nat} {c:List V},(j++[])[p]?=some (some (.cells c))->p≠6->U[p]?=some (some (.cells c)):=fun{p c} J az=>by
  rw[hU];exact zua O (by simpa using J) az
 obtain⟨u,UB⟩:=bb (Ae o w);obtain⟨g,P0⟩:=bb (yb o w)
 have i2:Inv u:=by rw[UB];exact zyK i1 I
 have z2:u.length<=228:=by rw[UB];have:=zyL i1 I;omega
 have x2:g.length=19:=by rw[P0];exact zs4 i1 I
 have c2:∀n,aZ n g=g:=λn=>by rw[P0];exact zwD w n
 have hq:Bk (U++[some (.cells f),none]) 6 7 5 o:=UA.app λn=>by simp[ay.cl,c1]
 have Fi:=zwC (G:=G) w hq i1 an hg I;rw[<-UB,<-P0,UA.cA] at Fi;obtain⟨T,hT⟩:=bb (dE U 6 7 5 u)
 have hs:Bk T 6 7 5 u:=by rw[hT];exact UA.to i2 an
 rw[<-hT] at Fi
 have l:T.length=8:=by rw[hT,sS,Y]
 have wC:∀{p:Nat} {c:List V},(j++[])[p]?=some (some (.cells c))->p≠6->T[p]?=some (some (.cells c)):=fun{p c} J az=>by
  rw[hT];exact zua UA (G6 J az) az
 have Mb:∀{A:ae} {p:Nat} {c:List V},A[p]?=some (some (.cells c))->∀r:ae,(A++r)[p]?=some (some (.cells c)):=fun{A p c} J r=>by
  rw[aai (aaa.1 J).1];exact J
 have u1:=Mb (G6 (o1 []) ah9);have ht:∀(r:ae) h,(U++r)[1]'h=some (.cells [.vs (IL w) .no]):=λr h=>(aaa.1 (u1 r)).2;have q0:=Mb (wC (o0 []) ah9);have q1:=Mb (wC (o1 []) ah9);have q2:=Mb (wC (c:=[.int .u32 live]) (p:=2) (by rw[D];rfl) ah9);have q3:=Mb (wC (o3 []) ah9);have q4:=Mb (wC (o4 []) ah9);have h0:∀(r:ae) h,(T++r)[0]'h=some (.cells [.vs (IL v) .no]):=λr h=>(aaa.1 (q0 r)).2
 have h3:∀(r:ae) h,(T++r)[1]'h=some (.cells [.vs (IL w) .no]):=λr h=>(aaa.1 (q1 r)).2;have Uv:∀(r:ae) h,(T++r)[2]'h=some (.cells [.int .u32 live]):=λr h=>(aaa.1 (q2 r)).2;have L_:∀(r:ae) h,(T++r)[3]'h=some (.cells m):=λr h=>(aaa.1 (q3 r)).2;have h4:∀(r:ae) h,(T++r)[4]'h=some (.cells [.int .i64 0]):=λr h=>(aaa.1 (q4 r)).2;have h5:∀r:ae,(U++r)[8]?=r[0]?:=λr=>oW Y;have h6:∀r:ae,(U++r)[9]?=r[1]?:=λr=>rW Y 1
 have hu:∀(r:ae) x,(U++r).set 8 x=U++r.set 0 x:=λr x=>tY Y x;have h7:∀(r:ae) x,(U++r).set 9 x=U++r.set 1 x:=λr x=>y6 Y 1 x;have h8:∀r:ae,(T++r)[8]?=r[0]?:=λr=>oW l;have h9:∀r:ae,(T++r)[9]?=r[1]?:=λr=>rW l 1;have xc:∀(r:ae) x,(T++r).set 8 x=T++r.set 0 x:=λr x=>tY l x;have hy:∀(r:ae) x,(T++r).set 9 x=T++r.set 1 x:=λr x=>y6 l 1 x;have d1:f.drop 19=[]:=aan an;have d2:g.drop 19=[]:=aan an
 have e1:f.take 19=f:=aaj an;have e2:g.take 19=g:=aaj an;simp only[FL] at mT Fi;refine cP mT ?_;simp[Y,hu,JE,lZ,ew,x1,ht];refine cP Fi ?_;simp[l,hy,lZ,ew,x2]
 have ah:∀p,p<8->p<T.length:=λp J=>by omega
 have G3:∀(r:ae) x,(T++r).set 3 x=T.set 3 x++r:=λr x=>aaQ _ _ an;have G4:∀(r:ae) y x,(T.set 3 y++r).set 4 x=(T.set 3 y).set 4 x++r:=λr y x=>aaQ _ _ (by simp;omega)
 have hz:∀(r:ae) y x,((T.set 3 y).set 4 x++r)[3]?=some y:=λr y x=>by
  rw[aai (by simp;omega),aaH ah9,abQ an]
 have hA:∀(r:ae) y x,((T.set 3 y).set 4 x++r)[4]?=some x:=λr y x=>by
  rw[aai (by simp;omega),abQ (by simp;omega)]
 have Fh:∀(r:ae) y,(T.set 3 y++r)[4]?=some (some (.cells [.int .i64 0])):=λr y=>by
  have:=q4 [];rw[aai (by simp;omega),aaH ah9];simpa using this
 have wB:∀(r:ae) y h,(T.set 3 y++r)[4]'h=some (.cells [.int .i64 0]):=λr y h=>(aaa.1 (Fh r y)).2;have Ch:∀(r:ae) y x h,((T.set 3 y).set 4 x++r)[3]'h=y:=λr y x h=>(aaa.1 (hz r y x)).2;have Ci:∀(r:ae) y x h,((T.set 3 y).set 4 x++r)[4]'h=x:=λr y x h=>(aaa.1 (hA r y x)).2;have K:m.take 28=m:=aaj an;have UC:m.drop 28=[]:=aan an
 have M:m.map V.jA=m:=by rw[B];simp[dP,ax,aas,V.jA]
 cases C:a_ v with
 | false =>
  have hd:ey v w live=(0,none):=by simp[ey,C]
  simp[hd,<-B,l,L_,Ma,G3,G4,K,UC,wB,Ch,Ci,Uy,M]
 | true =>
 cases hw:a_ w with
 | false =>
  have hd:ey v w live=(0,none):=by simp[ey,C,hw]
  simp[hd,<-B,l,L_,Ma,G3,G4,K,UC,wB,Ch,Ci,Uy,M]
 | true =>
 have UD:f=vcs (aK [] v).p (aK [] v).st .no:=by rw[Uz,yb,if_pos C]
 have hC:o=(aK [] v).L:=by rw[vo,Ae,if_pos C]
 have UE:g=vcs (aK o w).p (aK o w).st .no:=by rw[P0,yb,if_pos hw]
 have hF:u=(aK o w).L:=by rw[UB,Ae,if_pos hw]
 have k1:=Cb Inv.nil v H;have k2:=Cb i1 w I;have s:ey v w live=ey v w live:=rfl
 conv at s=>rhs;rw[ey,C,hw,if_pos (show(true&&true)=true from rfl),<-hC,<-hF]
 obtain⟨P,hP⟩:=bb ((aK [] v).p);obtain⟨S,hS⟩:=bb ((aK [] v).st);obtain⟨Q,hQ⟩:=bb ((aK o w).p);obtain⟨R,hR⟩:=bb ((aK o w).st)
 have pl:P.length=18:=by rw[hP];exact k1.len
 have ql:Q.length=18:=by rw[hQ];exact k2.len
 have sl:S.length<=1000000:=by
  have qJ:v.length<=32:=by simp only[a_,aae,decide_eq_true_eq] at C;exact C.1
  have:=k1.st;rw[hS];omega
 rw[<-hP,<-hQ,<-hS,<-hR] at s;rw[<-hP,<-hS] at UD;rw[<-hQ,<-hR] at UE;have ha:=zG2 (G:=G) P Q S R live gT pl ql sl;rw[<-UD,<-UE] at ha
 have m1:f.map V.jA=f:=by rw[UD];simp[vcs,nA,aas,V.jA]
 have m2:g.map V.jA=g:=by rw[UE];simp[vcs,nA,aas,V.jA]
 simp[l,Uv,x1,x2,e1,e2,m1,m2,c1,c2];refine aw ha ?_
 cases AZ:wy P Q S R live with
 | true =>
  rw[AZ,if_pos rfl] at s
  have At:V.int .i64 0::m.tail=m:=by rw[B];rfl
  simp[s,<-B,l,L_,Ma,G3,G4,K,UC,wB,Ch,Ci,Uy,M,At]
 | false =>
  rw[AZ] at s;simp only[aau,if_false] at s;simp[l,Uv,x1,x2,e1,e2]
  have hG:(T++[some (ay.cells f),some (ay.cells g)]).length=10:=by simp[l]
  have zF:=zG4 (G:=G) (T++[some (ay.cells f),some (ay.cells g)]) 6 live f g c1 c2 m1 m2;rw[hG,aaq] at zF;refine vh zF ir ?_;simp;subst B;obtain⟨E,hE⟩:=bb (T++[some (ay.cells f),some (ay.cells g),some (.cells [.ptr 6 0]),some (.cells f),some (.cells g),some (.cells [.int .u32 live])])
  have t:E.length=14:=by rw[hE];simp[l]
  obtain⟨i,F⟩:=bb (E++[some (ay.loop jJ [46] ua ub .ready)])
  have xd:i.length=15:=by rw[F];simp[t]
  have z:i=T++[some (ay.cells f),some (ay.cells g),some (.cells [.ptr 6 0]),some (.cells f),some (.cells g),some (.cells [.int .u32 live]),some (ay.loop jJ [46] ua ub .ready)]:=by rw[F,hE];simp
  have N:Bk E 6 7 5 u:=by rw[hE];refine hs.rV λn hn=>?_;simp[l] at hn;simp[ay.cl,c1,c2,aZ,V.cl,show 6<n by omega]
  have UF:Bk i 6 7 5 u:=by rw[F];refine N.rV λn hn=>?_;simp[t] at hn;simp[ay.cl,jJ,V.cl,show 0<n by omega,show 1<n by omega,show 2<n by omega,show 3<n by omega,show 4<n by omega]
  have hb:i[14]?=some (some (.loop jJ [46] ua ub .ready)):=by rw[F];exact oW t
  have hc:Cg i v w live:=⟨by rw[z];exact q0 _,by rw[z];exact q1 _,by rw[z];exact q2 _,by rw[z];exact q3 _,by rw[z];exact q4 _,hb,UF.shut⟩
  have hH:i[10]?=some (some (.cells [.ptr 6 0])):=by rw[z];exact rW l 2
  have hI:i[11]?=some (some (.cells (vcs P S .no))):=by rw[z,<-UD];exact rW l 3
  have hJ:i[12]?=some (some (.cells (vcs Q R .no))):=by rw[z,<-UE];exact rW l 4
  have hK:i[13]?=some (some (.cells [.int .u32 live])):=by rw[z];exact rW l 5
  have qh:=zCa (G:=G) UF i2 (id:=14) (i1:=13) (i2:=10) (i3:=11) (i4:=12) (live:=live) gT hK hH hI hJ pl ql an (hit:=λr=>wu v w live (wq r) (mY (r.drop 18))) (H':=jK i)
   (λr hr hh X hX=>by
    obtain⟨gI,kC⟩:=Uu hr;have:=zCc (G:=G) (hc.app hX) hf hg H I gT C hw gI kC hh
    simpa using this)
   (λr hr hh X hX=>by
    obtain⟨gI,kC⟩:=Uu hr;have:=zCc (G:=G) (hc.app hX) hf hg H I gT C hw gI kC hh;rw[zEG an] at this
    simpa using this)
   (λr hr hh=>⟨by
    have:=(zoQ UF.shut an r).self
    rwa[show(jK i r).length=i.length by simp[jK]] at this,by simp[jK]⟩)
  rw[<-hE];have he:=N.shut.self;rw[t] at he
  have o_:look (il [(3,V.ptr 0 0),(4,V.ptr 1 0),(5,V.ptr 2 0),(6,V.ptr 3 0),(7,V.ptr 4 0),(45,V.fn 310 [V.ptr 13 0,V.ptr 10 0,V.ptr 11 0,V.ptr 12 0])]) [3,4,5,6,7]=jJ:=by simp[jJ]
  cases pD:(s_ u P Q live).find? (λr=>wu v w live (wq r) (mY (r.drop 18))) with
  | none =>
   rw[pD] at qh s
   have hL:ak 14 i=E:=by rw[F];have:=N.shut.back [some (ay.loop jJ [46] ua ub .ready)];rwa[t] at this
   refine PX (as:=ua) (bo:=ub) (x:=.nx) (H2:=i) (r:=.bc []) ?_ (by rw[t];exact hb) (.inl ⟨rfl,rfl⟩) ?_
   .rw[t];rw[F] at qh;rw[F,o_];exact qh
   rw[t,hL,hE];simp only[] at s;have At:∀c,V.int .i64 c::(dP 0 none).tail=dP c none:=λc=>rfl
   simp[s,l,L_,Ma,G3,G4,UC,wB,Ch,Ci,At,zwE,Ux,zyM,zCd]
  | some r =>
   rw[pD] at qh s;obtain⟨gI,kC⟩:=Uu (acy pD)
   have lA:(dP 1 (some r)).length=28:=by have h1:=fi (zww gI kC);have h2:=MB (PK (w:=r.drop 18) (by simp[gI]) (λx hx=>kC x (aa6 hx)));simp only[dP,aap,aao,h1,h2]
   obtain⟨q,GY⟩:=bb (dP 1 (some r))
   have hj:∀n,aZ n q=q:=λn=>by rw[GY];exact Ux _ _ n
   have hM:q.map V.jA=q:=by rw[GY];exact zyM _ _
   rw[<-GY] at lA;have hN:q.take 28=q:=aaj an
   have hO:jK i r=((T.set 3 (some (.cells q))).set 4 (some (.cells [.int .i64 0])))++[some (ay.cells f),some (ay.cells g),some (.cells [.ptr 6 0]),some (.cells f),some (.cells g),some (.cells [.int .u32 live]),some (.loop jJ [46] ua ub (.done .ret))]:=by rw[z,jK,<-GY,G3,G4];rw[abV _ _ (by simp;omega)];simp[l]
   have fM:=zoQ UF.shut an r
   have hV:(jK i r)[14]?=some (some (.loop jJ [46] ua ub (.done .ret))):=by unfold jK;exact abQ (by simp;omega)
   have P2:ak 14 (jK i r)=((T.set 3 (some (.cells q))).set 4 (some (.cells [.int .i64 0])))++[some (ay.cells f),some (ay.cells g),some (.cells [.ptr 6 0]),some (.cells f),some (.cells g),some (.cells [.int .u32 live])]:=by
    have hW:E.map (aaU (ay.cl 14))=E:=by have:=he;unfold ak at this;rwa[aaj an] at this
    have hY:ak 14 ((E.set 3 (some (.cells q))).set 4 (some (.cells [.int .i64 0])))=(E.set 3 (some (.cells q))).set 4 (some (.cells [.int .i64 0])):=by unfold ak;rw[aaj (by simp;omega),acg,acg,hW];simp[ay.cl,hj,aZ,V.cl]
    have hl:(E.set 3 (some (.cells q))).set 4 (some (.cells [.int .i64 0]))=((T.set 3 (some (.cells q))).set 4 (some (.cells [.int .i64 0])))++[some (ay.cells f),some (ay.cells g),some (.cells [.ptr 6 0]),some (.cells f),some (.cells g),some (.cells [.int .u32 live])]:=by rw[hE,G3,G4]
    have r9:jK i r=((E.set 3 (some (.cells q))).set 4 (some (.cells [.int .i64 0])))++[some (.loop jJ [46] ua ub (.done .ret))]:=by rw[hl,hO];simp
    rw[r9,PQ hY (by simp;exact t),hl]
   refine PX (as:=ua) (bo:=ub) (x:=.ret) (H2:=jK i r) (r:=.bc []) ?_ (by rw[t];exact hV) (.inr ⟨rfl,ah9⟩) ?_
   .rw[t];rw[o_,<-F];exact qh
   rw[t,P2];simp only[] at s;simp[s,l,lA,hN,hj,hM,Ch,Ci,<-GY]
open Go Go.RowKit
variable {G:aL}
def zCe{v w:List af}{live:Nat}{s:St}{d:Da}(l:∀x∈v,x.k<4294967296)(m:∀x∈w,x.k<4294967296)(f:s.ok)(hd:d.ok)(I:a_ v=true)(J:a_ w=true)
  (h:wy (aK [] v).p (aK (aK [] v).L w).p (aK [] v).st (aK (aK [] v).L w).st live=true):wu v w live s d=false:=by
 have z:=Cb Inv.nil v l;have K:=Cb z.ext.inv w m;have o:=(Uo Inv.nil f hd l I).ext K.ext;have g:=Uo z.ext.inv f hd m J;obtain⟨M,r⟩:=zoP.1 h;have CH:=G1 d v s;have N:=G1 d w s;rw[<-r] at g
 have c:∀{p q:List Int} {st:List Int} {a b:List af} {L:List Nd},WV (eY s d) L p st a d s->WV (eY s d) L q st b d s->(cr d a s).2<a.length->(cr d b s).2<=b.length->(cr d b s).2<b.length:=fun{p q st a b L} A B O t=>by
  rcases Nat.lt_or_ge (cr d b s).2 b.length with h|h
  .exact h
  .exfalso;have P:(cr d b s).2=b.length:=Nat.le_antisymm t h;obtain⟨x,C,_,Q⟩:=A.stop O;have D:=(aaa.1 C).1;rw[B.num,<-P] at D;obtain⟨y,n,E,_,F,R⟩:=B.ahead _ D;rw[C] at E;cases E;rw[Q] at F;cases F;exact R rfl
 unfold wu
 by_cases i:(cr d v s).2<v.length
 .have u:=c o g i N;simp[i,u]
 .have u:¬(cr d w s).2<w.length:=λh=>i (c g o h CH);rw[if_neg (by simp[i,u])];have S:=o.done an;have T:=g.done an;refine zun λj e=>?_;unfold y8
  cases U:Ad live j with
  | false=>rfl
  | true =>
   have G:=M j e;simp only[Cf,U,abb,bne_eq_false_iff_eq] at G;have V:=G2 hd v s f l;have W:=G2 hd w s f m;rw[abb,bne_eq_false_iff_eq,zwA V e,zwA W e];have H:=(S.val j e).2;have X:=(T.val j e).2;rw[G,X] at H;exact(abC.inj H).symm
def mj{v w:List af}{live:Nat}(d:a_ v=true)(e:a_ w=true) :
  ey v w live=(0,none)/\wy (aK [] v).p (aK (aK [] v).L w).p (aK [] v).st (aK (aK [] v).L w).st live=true \/
  (∃r,ey v w live=(1,some r)/\r∈s_ (aK (aK [] v).L w).L (aK [] v).p (aK (aK [] v).L w).p live/\wu v w live (wq r) (mY (r.drop 18))=true/\wy (aK [] v).p (aK (aK [] v).L w).p (aK [] v).st (aK (aK [] v).L w).st live=false) \/
  ey v w live=(2,none)/\(∀r∈s_ (aK (aK [] v).L w).L (aK [] v).p (aK (aK [] v).L w).p live,wu v w live (wq r) (mY (r.drop 18))=false)/\wy (aK [] v).p (aK (aK [] v).L w).p (aK [] v).st (aK (aK [] v).L w).st live=false:=by
 have a:ey v w live=ey v w live:=rfl
 conv at a=>rhs;rw[ey,d,e,if_pos (show(true&&true)=true from rfl)]
 cases c:wy (aK [] v).p (aK (aK [] v).L w).p (aK [] v).st (aK (aK [] v).L w).st live with
 | true =>
  rw[c,if_pos rfl] at a
  exact .inl ⟨a,rfl⟩
 | false =>
  rw[c] at a;simp only[aau,if_false] at a
  cases b:(s_ (aK (aK [] v).L w).L (aK [] v).p (aK (aK [] v).L w).p live).find? (λr=>wu v w live (wq r) (mY (r.drop 18))) with
  | none =>
   rw[b] at a;refine .inr (.inr ⟨a,λr f=>?_,rfl⟩);have:=acs.1 b r f
   simpa using this
  | some r =>
   rw[b] at a;have g:=ac6 b;exact .inr (.inl ⟨r,a,acy b,g,rfl⟩)
def zz3{r:List Nat}(b:r.length=34)(d:∀x∈r,x<4294967296)(c:Int):(dP c (some r)).length=28/\(dP c (some r)).tail.take 18=(wq r).cs/\(dP c (some r)).drop 19=(mY (r.drop 18)).cs:=by
 have a:=fi (zww b d);have e:=MB (PK (w:=r.drop 18) (by simp[b]) (λx f=>d x (aa6 f)));refine⟨by simp only[dP,aap,aao,a,e],?_,?_⟩
 .simp only[dP,List.tail_cons];rw[acd a]
 .simp only[dP];rw[abH,ab1 a]
def zyN(c:Int)(o:Option (List Nat)):(dP c o).take 1=[.int .i64 c]:=by cases o<;>rfl
def zwF(v w:List af)(live:Nat):(dP (ey v w live).1 (ey v w live).2).length=28:=by
 cases a:a_ v&&a_ w with
 | false =>
  have b:ey v w live=(0,none):=by simp[ey,a]
  rw[b];rfl
 | true =>
  simp only[aae] at a
  rcases mj (live:=live) a.1 a.2 with⟨e,_⟩|⟨r,e,c,_,_⟩|⟨e,_,_⟩
  .rw[e];rfl
  .obtain⟨d,f⟩:=Uu c;rw[e];exact(zz3 d f 1).1
  .rw[e];rfl
def Cj(f:List af)(a m:Nat):Bool:=(aaI m).all λj=>!rY f f.length (a+1+j)
def zz4(f:List af)(a m:Nat):Cj f a (m+1)=(Cj f a m&&!rY f f.length (a+1+m)):=by simp[Cj,abv,List.all_append]
def zxF{f:List af}{a m n:Nat}(h:rY f f.length (a+1+m)=true)(b:m<n):Cj f a n=false:=by rw[<-ab_,Cj,abe];intro c;have:=c m (aaK.2 b);rw[h] at this;cases this
def th(f:List af)(a n:Nat):Bool:=a_ ((f.drop a).take n)&&Cj f a (n-1)
def Ck(f:List af)(a n:Int):Bool:=decide (0<=a/\1<=n/\a<f.length/\n<=f.length-a)
def vq(f:List af)(a n:Int):Bool:=Ck f a n&&th f a.toNat n.toNat
def Cl(f:List af)(a n:Int):Bool:=du f&&vq f a n
def Mc{f:List af}(a:du f=true):f.length<=4096:=by simp only[du,aae,decide_eq_true_eq] at a;exact a.1.1
def P3{f:List af}(b:∀x∈f,x.k<4294967296)(a n:Nat):∀x∈(f.drop a).take n,x.k<4294967296:=λx c=>b x (aa6 (abi c))
def zyO[aE G][aD G][aQ G][eJ G](f:List af)(a n:Int)(t:du f=true)(u:∀x∈f,x.k<4294967296) :
  FP G 205 [FL f,.vs (oK (iZ f f.length)) .no,.int .i64 a,.int .i64 n] (.bool (vq f a n)):=by
 refine bw eJ.ahS (aaf rfl) ?_;have F:=Mc t
 have H:maxLen=9223372036854775807:=by decide
 by_cases b:a<0
 .have:vq f a n=false:=by simp[vq,Ck,show¬0<=a by omega]
  simp[b,this]
 by_cases c:n<1
 .have:vq f a n=false:=by simp[vq,Ck,show¬1<=n by omega]
  simp[b,c,this]
 by_cases d:(f.length:Int)<=a
 .have:vq f a n=false:=by simp[vq,Ck,show¬a<f.length by omega]
  simp[b,c,d,FL,this]
 have p:bO .i64 f.length a=(f.length:Int)-a:=by rw[nW]<;>omega
 by_cases g:(f.length:Int)-a<n
 .have:vq f a n=false:=by simp[vq,Ck,show¬n<=f.length-a by omega]
  simp[b,c,d,g,p,FL,this]
 have v:Ck f a n=true:=by simp only[Ck,decide_eq_true_eq];omega
 obtain⟨a,rfl⟩:=aa1 (show 0<=a by omega);obtain⟨n,rfl⟩:=aa1 (show 0<=n by omega)
 have w:vq f (a:Int) (n:Int)=th f a n:=by simp[vq,v]
 rw[w];have b:((a:Int)<0)=False:=eq_false b;have y:((n:Int)<1)=False:=eq_false c;have c:(n=0)=False:=ah8;have d:((f.length:Int)<=(a:Int))=False:=eq_false d;have g:((f.length:Int)-(a:Int)<(n:Int))=False:=eq_false g
 have I:a+n<=f.length:=an
 have h:aC .i64 a (n:Int)=((a+n:Nat):Int):=qA an;have z:aC .i64 a 1=((a+1:Nat):Int):=bA an;have q:=Ca (G:=G) ((f.drop a).take n) (by rw[aav];omega) (P3 u a n)
 have A:List.take n (List.drop a (IL f))=IL ((f.drop a).take n):=by rw[zs0,zs1]
 have J:=Ut f f.length;simp only[FL] at q;simp(disch:=omega)[b,y,d,g,p,FL,h,aB,A,-aab];refine aw q ?_;cases e:a_ ((f.drop a).take n)
 .simp[th,e]
 have B:th f a n=Cj f a (n-1):=by simp[th,e]
 rw[B];simp[z,-aab];refine aO (n-1) (λj=>[(1,.vs (oK (iZ f f.length)) .no),(2,.int .i64 a),(3,.int .i64 n),(9,.int .i64 ((a+1+j:Nat):Int))]) (λ_=>[]) (λj=>Cj f a j=true) ?_ ?_
 .simp[av,ak,Cj]
 intro j K r
 by_cases s:j<n-1
 .have i:((a+1+j:Nat):Int)<((a+n:Nat):Int):=an
  have o:=L7 f f.length (a+1+j) an;obtain⟨_,l⟩:=aaa.1 o;have C:aC .i64 ((a+1+j:Nat):Int) 1=((a+1+(j+1):Nat):Int):=bA an;cases m:rY f f.length (a+1+j)
  .rw[m] at o l
   have D:Cj f a (j+1)=true:=by rw[zz4,r,m];rfl
   simp(disch:=omega)[h,bC i,l,s,C,D,av,ak,-aab]
  .rw[m] at o l;have:=zxF m s;simp(disch:=omega)[h,bC i,l,this,-aab]
 .have E:j=n-1:=an
  subst E
  have i:¬((a+1+(n-1):Nat):Int)<((a+n:Nat):Int):=an
  simp[h,kD i,r,-aab]
def zG5[aE G][aD G][aQ G][eJ G](f:List af)(a n:Int)(d:f.length<=maxLen)(c:∀x∈f,x.k<4294967296) :
  FP G 206 [FL f,.int .i64 a,.int .i64 n] (.bool (Cl f a n)):=by
 refine bw eJ.ahT (aaf rfl) ?_;have e:=Lb (G:=G) f d c;simp;refine aw e ?_;cases b:du f
 .simp[Cl,b]
 .simp;refine aw (zrZ f b c) ?_;simp;refine aw (zyO f a n b c) ?_;simp[Cl,b]
def ee(a e b i d:Nat):Nat:=if i<a/\e<=i+1+d then d-b else d
def ef(a e b i:Nat)(x:af):af:=if x.op=5 then{ x with k:=ee a e b i x.k } else if aX x.op then{ x with jt:=(ee a e b i x.jt.toNat:Nat),jf:=(ee a e b i x.jf.toNat:Nat) } else x
def pre(f:List af)(a e b m:Nat):List af:=(aaI m).map λi=>ef a e b i (f.getD i wo)
def eZ(f:List af)(a n:Nat)(w:List af):List af:=pre f a (a+n) (n-w.length) a++w++f.drop (a+n)
def UG(f:List af)(a n:Int)(w:List af):Bool:=Cl f a n&&a_ w&&decide ((w.length:Int)<=n)
def za(f:List af)(a n:Nat)(w:List af)(i:Nat):List af :=
 if i<=a then pre f a (a+n) (n-w.length) i else pre f a (a+n) (n-w.length) a++w++(f.take i).drop (a+n)
def zEI(f:List af)(a e b m:Nat):pre f a e b (m+1)=pre f a e b m++[ef a e b m (f.getD m wo)]:=by simp[pre,abv]
def G8(f:List af)(a e b m:Nat):(pre f a e b m).length=m:=by simp[pre]
def zCf{f:List af}{a n:Nat}{w:List af}{i:Nat}(hi:i<=f.length)(b:w.length<=32):(za f a n w i).length<=i+32:=by
 unfold za;split
 .rw[G8];omega
 .simp only[aao,G8,abG,aav];omega
def zCg{f:List af}{a n:Nat}{w:List af}(h:a+n<=f.length)(b:0<n):za f a n w f.length=eZ f a n w:=by rw[za,if_neg an,abd,eZ]
def zG6[eJ G](a e b i d:Nat)(z:ay)(y:List V)(hi:i<=5000)(hd:d<4294967296)(m:b<=d+5000)(g:i<a->e<=i+1+d->b<=d) :
  bE G (.F 207 [.int .i64 i,.int .i64 d,.ptr 0 0,.ptr 1 0,.ptr 2 0] [some (.cells [.int .i64 a]),some (.cells [.int .i64 e]),some (.cells [.int .i64 b]),some z,some (.cells y)] (.int .i64 (ee a e b i d:Nat))
   [some (.cells [.int .i64 a]),some (.cells [.int .i64 e]),some (.cells [.int .i64 b]),some z,some (.cells y)]):=by
 refine fg eJ.ahU (aaf rfl) ?_;have j:aC .i64 i 1=((i+1:Nat):Int):=bA an;have k:aC .i64 ((i+1:Nat):Int) (d:Int)=((i+1+d:Nat):Int):=qA an
 by_cases c:i<a
 .by_cases l:e<=i+1+d
  .have f:bO .i64 d (b:Int)=((ee a e b i d:Nat):Int):=by
    have:=g c l
    rw[ee,if_pos ⟨c,l⟩,nW]<;>omega
   have h:((e:Int)<=((i+1+d:Nat):Int))=True:=ah7;simp[c,j,k,h,f,-aab]
  .have f:ee a e b i d=d:=by rw[ee,if_neg an]
   have h:((e:Int)<=((i+1+d:Nat):Int))=False:=ah8;simp[c,j,k,h,f,-aab]
 .have f:ee a e b i d=d:=by rw[ee,if_neg an]
  simp[c,f]
def zIA[aE G][aD G][aQ G][eJ G](f w:List af)(a n:Nat)(hf:f.length<=maxLen)(hw:w.length<=maxLen)(X:∀x∈f,x.k<4294967296)(nO:∀x∈w,x.k<4294967296)(h:UG f a n w=true) :
  FP G 208 [FL f,.int .i64 a,.int .i64 n,FL w] (.bc [.vs (IL (eZ f a n w)) .no,.int .i64 0]):=by
 refine bw eJ.ahV (aaf rfl) ?_;have I:=zG5 (G:=G) f a n hf X;have J:=Ca (G:=G) w hw nO;simp only[UG,aae,decide_eq_true_eq] at h;obtain⟨⟨E,F⟩,h3⟩:=h;rw[E] at I;rw[F] at J;simp only[Cl,vq,Ck,aae,decide_eq_true_eq] at E;obtain⟨Y,⟨_,i2,i3,i4⟩,l8⟩:=E;simp only[abx] at l8;have Z:=Mc Y
 have qJ:w.length<=32:=by simp only[a_,aae,decide_eq_true_eq] at F;exact F.1
 have qV:a+n<=f.length:=an
 have P4:((n:Int)<(w.length:Int))=False:=ah8;have aa:aC .i64 a (n:Int)=((a+n:Nat):Int):=qA an
 have ss:bO .i64 n (w.length:Int)=((n-w.length:Nat):Int):=by rw[nW]<;>omega
 simp only[FL] at I J;simp[FL];refine aw I ?_;simp;refine aw J ?_;simp[P4,aa,ss,-aab];obtain⟨T,m⟩:∃T:Nat->List af,∀j,T j=za f a n w j:=⟨_,λ_=>rfl⟩
 have wW:T 0=[]:=by rw[m,za,if_pos an];rfl
 refine aO f.length (λi=>[(3,FL w),(5,.ptr 0 0),(10,.ptr 1 0),(12,.fn 207 [.ptr 0 0,.ptr 1 0,.ptr 2 0]),(13,.vs (IL (T i)) (.own 3)),(40,FL f),(41,.int .i64 f.length),(42,.int .i64 i)])
  (λi=>[some (.cells [.int .i64 a]),some (.cells [.int .i64 ((a+n:Nat):Int)]),some (.cells [.int .i64 ((n-w.length:Nat):Int)]),some (.zone (T i).length)]) (λ_=>True) ?_ ?_
 .simp[av,ak,FL,wW]
 intro i hi _
 by_cases e:i<f.length
 .have nJ:(T i).length<=i+32:=by rw[m];exact zCf hi qJ
  obtain⟨x,B⟩:=bb (f[i]);have p:=sC e;rw[<-B] at p;have B:=B.symm
  have K:f[i]?=some x:=by rw[aah e,B]
  have hD:f.getD i wo=x:=by rw[aa2,K];rfl
  have lH:x∈f:=B▸aaD e;have H:=X x lH;have L:=Ld Y K;have q:x.cs=[.int .i64 x.op,.int .i64 x.jt,.int .i64 x.jf,.int .u32 x.k]:=rfl;have M:=zL (G:=G) x;simp[IV,q] at M;have OY:((a:Int)<=(i:Int))=(a<=i):=propext an
  by_cases Dl:i=a
  .have r:((i:Int)==(a:Int))=true:=by simp[Dl]
   have v:T (i+1)=T i++w:=by rw[m,m,za,za,if_neg an,if_pos an,Dl];rw[aan (by rw[aav];omega)];simp
   have s:(T (i+1)).length=(T i).length+w.length:=by rw[v];simp
   have t:((i:Int)<((a+n:Nat):Int))=True:=ah7;have l:((a:Int)<=(i:Int))=True:=ah7
   have b:IL (T i)++IL w=IL (T (i+1)):=by rw[zAQ,v]
   by_cases E1:w=[]
   .subst E1
    have C:T (i+1)=T i:=by rw[v];simp
    simp(disch:=omega)[bC,FL,p,q,r,t,l,C,e,bA,av,ak,-aab]
   .simp(disch:=omega)[bC,FL,p,q,r,t,l,Si,E1,aB,b,s,e,bA,av,ak,-aab]
  have r:((i:Int)==(a:Int))=false:=aG an
  by_cases ha:a<=i/\i<a+n
  .have C:T (i+1)=T i:=by rw[m,m,za,za,if_neg an,if_neg an];rw[aan (by rw[aav];omega),aan (by rw[aav];omega)]
   have t:((i:Int)<((a+n:Nat):Int))=True:=ah7;have l:((a:Int)<=(i:Int))=True:=ah7;simp(disch:=omega)[bC,FL,p,q,r,t,l,C,e,bA,av,ak,-aab]
  have v:T (i+1)=T i++[ef a (a+n) (n-w.length) i x]:=by
   rw[m,m]
   by_cases p7:i<a
   .rw[za,za,if_pos an,if_pos an,zEI,hD]
   .have Cm:∀d,ee a (a+n) (n-w.length) i d=d:=λd=>by rw[ee,if_neg an]
    have L4:ef a (a+n) (n-w.length) i x=x:=by
     unfold ef;simp only[Cm];obtain⟨op,jt,jf,k⟩:=x
     by_cases c:op=5
     .simp[c]
     .cases o:aX op
      .simp[c]
      .obtain⟨N,O,P,Q⟩:=L o;simp only at N O P Q;simp[c];omega
    have kg:(f.take (i+1)).drop (a+n)=(f.take i).drop (a+n)++[x]:=by rw[abf,K,acZ,abR (by rw[aav];omega)]
    rw[L4,za,za,if_neg an,kg]
    by_cases R:i<=a
    .omega
    .rw[if_neg R,<-aaq]
  have s:(T (i+1)).length=(T i).length+1:=by rw[v];simp
  have z:∀d:Nat,d<4294967296->_:=λd hd=>zG6 (G:=G) a (a+n) (n-w.length) i d (.zone (T i).length) x.cs an hd an (λE F=>by omega)
  have yc:∀d:Nat,ee a (a+n) (n-w.length) i d<=d:=λd=>by unfold ee;split<;>omega
  have A:∀y:af,y=ef a (a+n) (n-w.length) i x->IL (T i)++[y.cs]=IL (T (i+1)):=λy hy=>by rw[v,hy];exact Sj _ _
  by_cases hb:a<=i
  .have l:((a:Int)<=(i:Int))=True:=ah7;have t:((i:Int)<((a+n:Nat):Int))=False:=ah8
   by_cases c:x.op=5
   .have u:(x.op==5)=true:=by simp[c]
    have S:=CW x.k H;have g:=z x.k H
    have U:fc .u32 ((ee a (a+n) (n-w.length) i x.k:Nat):Int)=((ee a (a+n) (n-w.length) i x.k:Nat):Int):=by unfold fc;exact sM (by have:=yc x.k;omega)
    have b:=A ⟨x.op,x.jt,x.jf,ee a (a+n) (n-w.length) i x.k⟩ (by simp[ef,c]);simp only[af.cs] at g b;simp(disch:=omega)[bC,FL,p,q,r,l,t,u,S,-aab];refine kW g ir ?_;simp(disch:=omega)[ak,U,aB,b,s,e,bA,av,-aab]
   have u:(x.op==5)=false:=aG c;simp(disch:=omega)[bC,FL,p,q,r,l,t,u,-aab];refine aw M ?_;cases o:aX x.op
   .have b:=A x (by simp[ef,c,o]);simp only[af.cs] at b;simp(disch:=omega)[aB,b,s,e,bA,av,ak,-aab]
   .obtain⟨N,O,P,Q⟩:=L o;have g:=z x.jt.toNat an;have D:=z x.jf.toNat an;have b:=A ⟨x.op,(ee a (a+n) (n-w.length) i x.jt.toNat:Nat),(ee a (a+n) (n-w.length) i x.jf.toNat:Nat),x.k⟩ (by simp[ef,c,o])
    have V:((x.jt.toNat:Nat):Int)=x.jt:=an
    have W:((x.jf.toNat:Nat):Int)=x.jf:=an
    simp only[af.cs,V,W] at g D b;simp;refine kW g (by simp[ak]) ?_;simp[ak];refine kW D (by simp[ak]) ?_;simp(disch:=omega)[ak,aB,b,s,e,bA,av,-aab];omega
  .have l:((a:Int)<=(i:Int))=False:=ah8
   by_cases c:x.op=5
   .have u:(x.op==5)=true:=by simp[c]
    have S:=CW x.k H;have g:=z x.k H
    have U:fc .u32 ((ee a (a+n) (n-w.length) i x.k:Nat):Int)=((ee a (a+n) (n-w.length) i x.k:Nat):Int):=by unfold fc;exact sM (by have:=yc x.k;omega)
    have b:=A ⟨x.op,x.jt,x.jf,ee a (a+n) (n-w.length) i x.k⟩ (by simp[ef,c]);simp only[af.cs] at g b;simp(disch:=omega)[bC,FL,p,q,r,l,u,S,-aab];refine kW g ir ?_;simp(disch:=omega)[ak,U,aB,b,s,e,bA,av,-aab]
   have u:(x.op==5)=false:=aG c;simp(disch:=omega)[bC,FL,p,q,r,l,u,-aab];refine aw M ?_;cases o:aX x.op
   .have b:=A x (by simp[ef,c,o]);simp only[af.cs] at b;simp(disch:=omega)[aB,b,s,e,bA,av,ak,-aab]
   .obtain⟨N,O,P,Q⟩:=L o;have g:=z x.jt.toNat an;have D:=z x.jf.toNat an;have b:=A ⟨x.op,(ee a (a+n) (n-w.length) i x.jt.toNat:Nat),(ee a (a+n) (n-w.length) i x.jf.toNat:Nat),x.k⟩ (by simp[ef,c,o])
    have V:((x.jt.toNat:Nat):Int)=x.jt:=an
    have W:((x.jf.toNat:Nat):Int)=x.jf:=an
    simp only[af.cs,V,W] at g D b;simp;refine kW g (by simp[ak]) ?_;simp[ak];refine kW D (by simp[ak]) ?_;simp(disch:=omega)[ak,aB,b,s,e,bA,av,-aab];omega
 .have az:i=f.length:=an
  subst az
  have C:T f.length=eZ f a n w:=by rw[m,zCg qV an]
  simp[C]
abbrev Pc:=Nat×Nat
def pr(c:Nat->Bool)(a k j:Nat):List Pc:=(aaI j).flatMap λi=>if c (k-i) then [(a,k-i)] else []
def Me(c:Nat->Bool)(a k j:Nat):pr c a k (j+1)=pr c a k j++(if c (k-j)=true then [(a,k-j)] else []):=by simp[pr,abv,acR]
def UH(c:Nat->Bool)(a:Nat):∀(d k:Nat),(∀m,k<m->m<=k+d->c m=false)->∀j,pr c a (k+d) (d+j)=pr c a k j
 | 0,k,_,j=>by simp
 | d+1,k,h,0=>by
  have:=UH c a d (k+1) (λm e f=>h m an an) 1;rw[show k+(d+1)=k+1+d by omega,show d+1+0=d+1 by omega,this]
  simp[pr,h (k+1) an an]
 | d+1,k,h,j+1=>by
  have b:=UH c a (d+1) k h j;rw[show d+1+(j+1)=(d+1+j)+1 by omega,Me,b,Me];rw[show k+(d+1)-(d+1+j)=k-j by omega]
def zwG(c:Nat->Bool)(a k:Nat):∀j,(pr c a k j).length<=j
 | 0=>by simp[pr]
 | j+1=>by
  rw[Me,aao];have:=zwG c a k j
  split<;>simp<;>omega
def r_(f:List af)(most:Int)(a m:Nat):Bool:=decide ((m:Int)<=most)&&decide ((m:Int)<=f.length-a)&&Cl f a m
def rows(f:List af)(most:Int)(a:Nat):List Pc:=(aaI a).flatMap λb=>pr (r_ f most b) b 32 31
def UI(f:List af)(most:Int)(a:Nat):rows f most (a+1)=rows f most a++pr (r_ f most a) a 32 31:=by simp[rows,abv,acR]
def zqQ(f:List af)(most:Int):∀a,(rows f most a).length<=31*a
 | 0=>by simp[rows]
 | a+1=>by
  rw[UI,aao];have:=zqQ f most a;have:=zwG (r_ f most a) a 32 31;omega
def zyP{c:Nat->Bool}(h:∀m,c m=false)(a k:Nat):∀j,pr c a k j=[]
 | 0=>rfl
 | j+1=>by rw[Me,zyP h a k j,h];rfl
def zuq{f:List af}(h:du f=false)(most:Int):∀a,rows f most a=[]
 | 0=>rfl
 | a+1=>by rw[UI,zuq h most a,zyP (λm=>by simp[r_,Cl,h])];rfl
def zIB{f:List af}{most:Int}{a:Nat}(k:Int)(g:k=min most (min ((f.length:Int)-a) 32)):pr (r_ f most a) a 32 31=pr (r_ f most a) a k.toNat (k.toNat-1):=by
 by_cases e:k<1
 .have:∀m,1<=m->m<=32->r_ f most a m=false:=by
   intro m d b
   by_cases c:(m:Int)<=most
   .have:¬(m:Int)<=f.length-a:=an
    simp[r_,this]
   .simp[r_,c]
  have b:=UH (r_ f most a) a 31 1 (λm d e=>this m an an) 0;simp only[abU] at b;rw[show k.toNat-1=0 by omega,b];rfl
 .have b:=UH (r_ f most a) a (32-k.toNat) k.toNat (λm d b=>by
   by_cases c:(m:Int)<=most
   .have:¬(m:Int)<=f.length-a:=an
    simp[r_,this]
   .simp[r_,c]) (k.toNat-1)
  rw[show k.toNat+(32-k.toNat)=32 by omega,show 32-k.toNat+(k.toNat-1)=31 by omega] at b;exact b
def w_(l:List Pc):List (List V):=l.map λp=>[.int .i64 p.1,.int .i64 p.2]
@[simp] theorem zIC (l:List Pc):(w_ l).length=l.length:=by simp[w_]
@[simp] theorem zNV:w_ []=[]:=rfl
@[simp] theorem zr0 (l:List Pc) (a m:Nat):w_ l++[[V.int .i64 a,.int .i64 m]]=w_ (l++[(a,m)]):=by simp[w_]
@[simp] theorem zNW (l:List Pc) (i:Nat):(w_ l)[i]?=(l[i]?).map λp=>[.int .i64 p.1,.int .i64 p.2]:=by simp[w_]
@[simp] theorem zOd (l:List Pc):(∀f∈w_ l,f.length=2)=True:=by simp only[eq_iff_iff,iff_true];intro f a;simp only[w_,abn] at a;obtain⟨x,_,rfl⟩:=a;rfl
theorem zCh[aE G][aD G][aQ G][eJ G](f:List af)(most:Int)(s:f.length<=maxLen)(g:∀x∈f,x.k<4294967296)(I:-9223372036854775808<=most/\most<=9223372036854775807) :
  FP G 209 [FL f,.int .i64 most] (.vs (w_ (rows f most f.length)) .no):=by
 refine bw eJ.ahW (aaf rfl) ?_;have t:=Lb (G:=G) f s g;simp;refine aw t ?_;cases d:du f
 .rw[zuq d];simp
 have J:=Mc d;simp;refine aw (zrZ f d g) ?_;simp[FL];refine aO f.length (λa=>[(0,FL f),(1,.int .i64 most),(5,.vs (oK (iZ f f.length)) .no),(6,.vs (w_ (rows f most a)) (.own 0)),(15,.int .i64 f.length),(16,.int .i64 a)]) (λa=>[some (.zone (rows f most a).length)]) (λ_=>True) ?_ ?_
 .simp[av,ak,FL,rows]
 intro a K _;have L:=zqQ f most a
 by_cases u:a<f.length
 .obtain⟨k,v⟩:∃k,k=min most (min ((f.length:Int)-a) 32):=⟨_,rfl⟩;have h:=zIB k v
  have w:bO .i64 f.length (a:Int)=(f.length:Int)-a:=by rw[nW]<;>omega
  have y:(if 32<if(f.length:Int)-(a:Int)<most then(f.length:Int)-(a:Int) else most then 32 else if(f.length:Int)-(a:Int)<most then(f.length:Int)-(a:Int) else most)=k:=an
  simp(disch:=omega)[bC,FL,w,sJ,MU,y,-aab];obtain⟨T,b⟩:∃T:Nat->List Pc,∀j,T j=rows f most a++pr (r_ f most a) a k.toNat j:=⟨_,λ_=>rfl⟩
  have z:T 0=rows f most a:=by rw[b];simp[pr]
  refine aO (k.toNat-1) (λj=>[(0,FL f),(1,.int .i64 most),(5,.vs (oK (iZ f f.length)) .no),(6,.vs (w_ (T j)) (.own 0)),(7,.int .i64 a),(8,.int .i64 (k-j)),(15,.int .i64 f.length),(16,.int .i64 a)])
   (λj=>[some (.zone (T j).length)]) (λ_=>True) ?_ ?_
  .simp[av,ak,FL,z]
  intro j M _;have N:=zwG (r_ f most a) a k.toNat j
  have O:(T j).length<=31*a+j:=by rw[b,aao];omega
  have c:=Me (r_ f most a) a k.toNat j
  by_cases o:j<k.toNat-1
  .have P:(2:Int)<=k-j:=an
   have A:k-(j:Int)=((k.toNat-j:Nat):Int):=an
   have p:=zyO (G:=G) f a ((k.toNat-j:Nat):Int) d g
   have q:bO .i64 ((k.toNat-j:Nat):Int) 1=k-((j+1:Nat):Int):=by rw[nW]<;>omega
   have i:((2:Int)<=((k.toNat-j:Nat):Int))=True:=ah7
   have B:r_ f most a (k.toNat-j)=vq f a ((k.toNat-j:Nat):Int):=by
    have C:((k.toNat-j:Nat):Int)<=most:=an
    have D:((k.toNat-j:Nat):Int)<=f.length-a:=an
    simp[r_,C,D,Cl,d]
   simp only[FL] at p;rw[B] at c;rw[A];simp(disch:=omega)[i,FL,-aab];refine aw p ?_;cases e:vq f a ((k.toNat-j:Nat):Int)
   .rw[e] at c
    have E:T (j+1)=T j:=by rw[b,b,c];simp
    simp(disch:=omega)[q,o,E,av,ak,-aab]
   .rw[e] at c;simp only[if_true] at c
    have r:T (j+1)=T j++[(a,k.toNat-j)]:=by rw[b,b,c,aaq]
    have l:(T (j+1)).length=(T j).length+1:=by rw[r];simp
    have m:w_ (T j)++[[V.int .i64 a,.int .i64 ((k.toNat-j:Nat):Int)]]=w_ (T (j+1)):=by rw[zr0,r]
    simp(disch:=omega)[aB,m,l,q,o,av,ak,-aab,-zr0]
  .have n:j=k.toNat-1:=an
   subst n;have F:((2:Int)<=k-((k.toNat-1:Nat):Int))=False:=ah8
   have H:T (k.toNat-1)=rows f most (a+1):=by rw[b,<-h,<-UI]
   rw[H];simp(disch:=omega)[F,u,bA,av,ak,FL,-aab]
 .have n:a=f.length:=an
  subst n;simp
def JP(t:Tk)(l:List Pc):List (List V):=l.map λp=>[.vs [[.int .i64 p.1],[.int .i64 p.2]] t]
@[simp] theorem zID (t:Tk) (l:List Pc):(JP t l).length=l.length:=by simp[JP]
@[simp] theorem zNX (t:Tk):JP t []=[]:=rfl
@[simp] theorem zNY (t:Tk) (l:List Pc) (i:Nat):(JP t l)[i]?=(l[i]?).map λp=>[.vs [[.int .i64 p.1],[.int .i64 p.2]] t]:=by simp[JP]
@[simp] theorem zOe (t:Tk) (l:List Pc):(∀f∈JP t l,f.length=1)=True:=by simp only[eq_iff_iff,iff_true];intro f a;simp only[JP,abn] at a;obtain⟨x,_,rfl⟩:=a;rfl
theorem zCi{c:Nat->Bool}{a k:Nat}{p:Pc}:∀{j:Nat},p∈pr c a k j->p.1=a/\c p.2=true/\p.2<=k/\k<p.2+j
 | 0,h=>by simp[pr] at h
 | j+1,h=>by
  rw[Me,aaE] at h
  rcases h with h|h
  .obtain⟨b,d,e,g⟩:=zCi h;exact⟨b,d,e,an⟩
  .split at h
   .rename_i f;simp only[aaY] at h;subst h;exact⟨rfl,f,ir,by simp only;omega⟩
   .cases h
def UJ{f:List af}{most:Int}{p:Pc}:∀{n:Nat},p∈rows f most n->p.1<n/\r_ f most p.1 p.2=true/\2<=p.2/\p.2<=32
 | 0,h=>by simp[rows] at h
 | n+1,h=>by
  rw[UI,aaE] at h
  rcases h with h|h
  .obtain⟨b,a⟩:=UJ h;exact⟨an,a⟩
  .obtain⟨b,a,c,d⟩:=zCi h;exact⟨an,by rw[b];exact a,an,c⟩
def zwH:∀{f:List af},(∀i x,f[i]?=some x->cd x (f.length-1-i)=true)->jF f=true
 | [],_=>rfl
 | x::f,h=>by
  rw[jF,aae];refine⟨by have:=h 0 x rfl;simpa using this,zwH λi y a=>?_⟩;have:=h (i+1) y (by simpa using a);rw[<-this];congr 1;simp only[aap];omega
def zCj{x:af}(a e b i:Nat)(h:jS x=true)(k:kJ x=true):jS (ef a e b i x)=true/\kJ (ef a e b i x)=true:=by
 have l:=Av h
 have j:∀d:Nat,ee a e b i d<=d:=λd=>by unfold ee;split<;>omega
 unfold ef
 by_cases f:x.op=5
 .rw[if_pos f];refine⟨?_,?_⟩
  .have m:oG 5=some (5,[106,97],true,false):=by decide
   unfold jS at h |-;simp only[f,m,Bool.true_or,abb] at h |-;exact h
  .simp[kJ,f]
 .rw[if_neg f]
  by_cases c:aX x.op=true
  .rw[if_pos c];obtain⟨v,w,y,z⟩:=l c;have:=j x.jt.toNat;have:=j x.jf.toNat;refine⟨?_,?_⟩
   .unfold jS at h |-;simp only at h |-;split at h
    .rename_i r n;simp only[aae] at h |-;refine⟨h.1,?_⟩
     have g:∀r∈pg,aX r.1=r.2.2.2:=by decide
     obtain⟨q1,o⟩:=Gc n;have:=g r o;rw[q1,c] at this;rw[<-this];simp only[if_true,decide_eq_true_eq];omega
    .cases h
   .have q:∀p∈[21,37,53,69,29,45,61,(77:Int)],p≠32/\p≠52/\¬(p=2\/p=3\/p=96\/p=97)/\¬(p=100\/p=116):=by decide
    obtain⟨n1,s,t,u⟩:=q _ (by simpa[aX] using c);simp only[kJ,n1,s,t,u,if_false]
  .rw[if_neg c];exact⟨h,k⟩
def Mf(a e b i:Nat)(x:af):(ef a e b i x).op=x.op:=by
 unfold ef;split
 .rfl
 .split<;>rfl
def zCk{x:af}(h:mX x=true)(left:Nat):cd x left=true:=by simp only[mX,aae] at h;rw[zui h.1.1,h.1.2,h.2];rfl
def JQ{w:List af}(h:a_ w=true):∀x∈w,mX x=true:=by simp only[a_,aae,abe] at h;exact h.2
def zur{f:List af}{a n:Nat}(e:du f=true)(b:th f a n=true)(k:0<n)(l:a+n<=f.length):a+n<f.length:=by
 by_cases h:a+n<f.length
 .exact h
 .exfalso;have c:f[a+n-1]?=some (f[a+n-1]' an):=aah an;obtain⟨_,g,_⟩:=Gq e c
  have j:f[a+n-1]' an∈(f.drop a).take n:=by refine aaA (i:=n-1) ?_;rw[abJ,if_pos an,abc,show a+(n-1)=a+n-1 by omega];exact c
  simp only[th,aae] at b;have d:=JQ b.1 _ j;simp only[mX,aae] at d;have:=g (znw d.1.1).2.2;omega
def zCl{f:List af}{a n:Nat}(b:th f a n=true){i:Nat}{x:af}(c:f[i]?=some x){t:Nat}(d:a<t)(e:t<a+n):AE x i t=false:=by simp only[th,aae,Cj,abe,aaK,ac1] at b;have:=b.2 (t-a-1) an;rw[show a+1+(t-a-1)=t by omega,rY,<-ab_,abX] at this;rw[<-ab_];intro h;refine this ⟨i,aaK.2 (aaa.1 c).1,?_⟩;rw[aa2,c];exact h
def UK{f w:List af}{a n:Nat}(b:a+n<=f.length):(eZ f a n w).length=f.length-n+w.length:=by simp only[eZ,aao,G8,abG];omega
def zus{f w:List af}{a n:Nat}(g:du f=true)(s:th f a n=true)(C:0<n)(t:a+n<=f.length)(D:a_ w=true)(P:w.length<=n):du (eZ f a n w)=true:=by
 have Q:=zur g s C t;have u:=UK (w:=w) t;have R:=Mc g
 have o:jF (eZ f a n w)=true:=by
  refine zwH λi x b=>?_;rw[u]
  by_cases v:i<a
  .rw[eZ,aaq,aai (by rw[G8];exact v)] at b;have l:f[i]?=some (f[i]' an):=aah an;obtain⟨y,E⟩:=bb (f[i]'(by omega));rw[<-E] at l
   have F:x=ef a (a+n) (n-w.length) i y:=by rw[pre,abA,acn v] at b;simp only[ab2,abC.injEq] at b;rw[<-b,aa2,l];rfl
   subst F;have m:=(Gq g l).1;simp only[cd,aae] at m;obtain⟨⟨⟨A,G⟩,H⟩,I⟩:=m;obtain⟨J,K⟩:=zCj a (a+n) (n-w.length) i A G;have L:=Av A;rw[cd,Mf,J,K]
   have e:∀d:Nat,AE y i (i+1+d)=true->i+1+d<f.length->ee a (a+n) (n-w.length) i d<f.length-n+w.length-1-i:=by
    intro d B hd
    have M:¬(a<i+1+d/\i+1+d<a+n):=λ⟨o,p⟩=>by rw[zCl s l o p] at B;cases B
    unfold ee
    split<;>omega
   by_cases c:y.op=5
   .have j:aX y.op=false:=by rw[c];decide
    rw[if_pos c,decide_eq_true_eq] at H;have:=e y.k (by simp[AE,c]) an;simp only[c,if_true,abb,aau,if_false,acI,decide_eq_true_eq,show aX 5=false by decide];simp only[ef,c,if_true];exact this
   .cases j:aX y.op
    .simp[c]
    .obtain⟨S,T,U,V⟩:=L j;rw[if_pos j,decide_eq_true_eq] at I;have W:=e y.jt.toNat (by simp[AE,c,j]) an;have X:=e y.jf.toNat (by simp[AE,c,j]) an;simp only[c,if_false,if_true,abb,decide_eq_true_eq];simp only[ef,c,j,if_false,if_true];omega
  .rw[eZ,aaq,abp (by rw[G8];omega),G8] at b
   by_cases q:i-a<w.length
   .rw[aai q] at b;exact zCk (JQ D x (aaA b)) _
   .rw[abp an,abc] at b;have m:=(Gq g b).1;rw[<-m];congr 1;have:=(aaa.1 b).1;omega
 have p:kK (eZ f a n w)=true:=by
  have r:kK f=true:=by simp only[du,aae] at g;exact g.2
  have Y:f.drop (a+n)≠[]:=by intro h;have:=congrArg List.length h;rw[abG] at this;simp at this;omega
  have:(eZ f a n w).getLast?=f.getLast?:=by
   rw[eZ,List.getLast?_append,List.getLast?_drop,if_neg an]
   cases N:f.getLast? with
   | none=>simp only[kK,N] at r;cases r
   | some z=>rfl
  simp only[kK,this];exact r
 have O:(eZ f a n w).length<=4096:=by rw[u];omega
 simp[du,o,p,O]
def zFE{f w:List af}{a n:Nat}(c:∀x∈f,x.k<4294967296)(g:∀x∈w,x.k<4294967296):∀x∈eZ f a n w,x.k<4294967296:=by
 intro x b;simp only[eZ,aaE] at b
 rcases b with(b|b)|b
 .simp only[pre,abn,aaK] at b;obtain⟨i,hi,rfl⟩:=b
  have e:(f.getD i wo).k<4294967296:=by
   rw[aa2]
   cases h:f[i]? with
   | none=>decide
   | some z=>exact c z (aaA h)
  generalize f.getD i wo=y at e
  have j:∀d:Nat,ee a (a+n) (n-w.length) i d<=d:=λd=>by unfold ee;split<;>omega
  unfold ef;split
  .have:=j y.k;simp only;omega
  .split<;>exact e
 .exact g x b
 .exact c x (aa6 b)
def P6{x:af}(h:mX x=true):x.op≠5/\aX x.op=false/\x.op≠6/\x.op≠22:=by simp only[mX,aae] at h;obtain⟨b,c,a⟩:=znw h.1.1;simp only[fW,decide_eq_false_iff_not,not_or] at a;exact⟨b,c,a.1,a.2⟩
def zz5{x:af}(h:mX x=true)(s:St):goes s x=0:=by obtain⟨a,b,_⟩:=P6 h;simp[goes,a,b]
def zs5(d:Da)(g:List af):∀(w:List af) (s:St),(∀x∈w,mX x=true) ->
  run d (w++g) s=if(cr d w s).2<w.length then(0,(cr d w s).2+1) else((run d g (cr d w s).1).1,w.length+(run d g (cr d w s).1).2)
 | [],s,_=>by simp[cr]
 | x::w,s,h=>by
  have b:=h x ir;obtain⟨k,l,e,f⟩:=P6 b;have i:=zs5 d g w (dJ s x d).1 λy j=>h y (by simp[j]);rw[ab9,xN,if_neg e,if_neg f,zz5 b,acq]
  by_cases a:(dJ s x d).2=true
  .rw[if_pos a,i];simp only[cr,a,if_true,aap]
   by_cases c:(cr d w (dJ s x d).1).2<w.length
   .rw[if_pos c,if_pos an]
   .rw[if_neg c,if_neg an];simp only[Prod.mk.injEq,true_and];omega
  .rw[if_neg a];simp only[cr,a,if_false,aap,aau];rw[if_pos an]
def zut{d:Da}:∀(w:List af) (s:St),(∀x∈w,mX x=true)->(cr d w s).2<w.length->0<kp w w.length
 | [],s,_,h=>by simp[cr] at h
 | x::w,s,a,h=>by
  rw[aap,L3]
  by_cases b:(dJ s x d).2=true
  .have:=zut (d:=d) w (dJ s x d).1 (λy c=>a y (by simp[c])) (by simp only[cr,b,if_true,aap] at h;omega);omega
  .have:=(zwy (a x ir) (by simpa using b)).1;rw[if_pos this];omega
def zEJ(a e b i:Nat)(s:St)(x:af)(d:Da):dJ s (ef a e b i x) d=dJ s x d:=by
 by_cases c:x.op=5
 .have f:bf (5:Int)=(0,false,false):=by decide
  have g:(ef a e b i x).op=5:=by rw[Mf,c]
  have o:∀y:af,y.op=5->dJ s y d=(s,true):=λy h=>by
   simp only[dJ,h,f,aau,if_false,ic];simp
  rw[o _ g,o _ c]
 .unfold ef;rw[if_neg c]
  split<;>rfl
def Co(a e b i:Nat)(s:St){x:af}(h:fW x.op=false)(hi:i<a):goes s (ef a e b i x)=ee a e b i (goes s x)\/goes s x=0/\goes s (ef a e b i x)=0:=by
 have d:=Mf a e b i x
 by_cases c:x.op=5
 .left;simp only[goes,d,c,if_true];simp[ef,c]
 by_cases f:aX x.op=true
 .left
  have g:ef a e b i x={ x with jt:=(ee a e b i x.jt.toNat:Nat),jf:=(ee a e b i x.jf.toNat:Nat) }:=by rw[ef,if_neg c,if_pos f]
  have j:bG s (ef a e b i x)=bG s x:=by rw[g];rfl
  simp only[goes,d,if_neg c,f,if_true,j];rw[g]
  cases bG s x<;>simp
 .right;simp[goes,d,c,f]
def zIE(g:List af):bh g [0]=nd g:=by
 funext p
 simp[bh]
def zp5{f w:List af}{a n t:Nat}(b:t<a){x:af}(c:f[t]?=some x):(eZ f a n w).drop t=ef a (a+n) (n-w.length) t x::(eZ f a n w).drop (t+1):=by
 have d:(eZ f a n w)[t]?=some (ef a (a+n) (n-w.length) t x):=by rw[eZ,aaq,aai (by rw[G8];exact b),pre,abA,acn b];simp[aa2,c]
 obtain⟨g,e⟩:=aaa.1 d;rw[aaJ g,e]
def zs6(f w:List af)(a n:Nat):(eZ f a n w).drop a=w++f.drop (a+n):=by rw[eZ,aaq,ab1 (G8 _ _ _ _ _)]
def zp6{f w:List af}{a n t:Nat}(b:w.length<=n)(h:a+n<=t):(eZ f a n w).drop (t-(n-w.length))=f.drop t:=by
 have e:t-(n-w.length)=a+(w.length+(t-(a+n))):=an
 rw[e,<-abD,zs6,<-abD,ab1 rfl,abD]
 congr 1
 omega
def zwI{s:St}{d:Da}(a:s.ok){i:Nat}(hi:i<18):(eY s d).getD i 0=part s i:=by
 have b:=a.2.2.1
 match i,hi with
 | 0,_=>rfl
 | 1,_=>rfl
 | i+2,h =>
  simp only[eY,part];rw[aak,aba,aba,aai an,<-aak]
def zr1{f w:List af}{a n live:Nat}{d:Da}(K:du f=true)(y:th f a n=true)(Y:0<n)(Z:a+n<=f.length)(L:a_ w=true)(M:w.length<=n)
  (z:∀x∈f,x.k<4294967296) (N:∀x∈w,x.k<4294967296) (hd:d.ok) (O:∀p<18,nd (f.drop (a+n)) p=true->Ad live p=true)
  (P:∀s:St,s.ok->wu ((f.drop a).take n) w live s d=false) :
  ∀(m t:Nat) (s:St),f.length-t<=m->t<f.length->(t<=a\/a+n<=t)->s.ok ->
   (run d ((eZ f a n w).drop (if t<=a then t else t-(n-w.length))) s).1=(run d (f.drop t) s).1 /\
   ((run d ((eZ f a n w).drop (if t<=a then t else t-(n-w.length))) s).2<=(run d (f.drop t) s).2\/0<kp ((f.drop a).take n) n)
 | 0,t,s,h1,Q,_,_=>by omega
 | m+1,t,s,h1,Q,h3,A=>by
  have r:((f.drop a).take n).length=n:=by rw[aav,abG];omega
  by_cases R:t<=a
  case neg =>
   have h4:a+n<=t:=an
   rw[if_neg R,zp6 M h4];exact⟨rfl,.inl (aaF _)⟩
  rw[if_pos R]
  by_cases sX:t=a
  .subst sX
   have S:∀x∈(f.drop t).take n,mX x=true:=by simp only[th,aae] at y;exact JQ y.1
   have E:f.drop t=(f.drop t).take n++f.drop (t+n):=by rw[<-abD,acF]
   have c:=P s A;have n1:=G1 d ((f.drop t).take n) s;have n2:=G1 d w s;have T:=zs5 d (f.drop (t+n)) ((f.drop t).take n) s S;rw[<-E,r] at T;rw[r] at n1;rw[zs6,T,zs5 d _ w s (JQ L)];unfold wu at c;rw[r] at c
   by_cases g:(cr d ((f.drop t).take n) s).2<n
   .have i:(cr d w s).2<w.length:=by rw[if_pos (.inl g)] at c;simpa[g] using c
    rw[if_pos g,if_pos i];refine⟨rfl,.inr ?_⟩;have:=zut ((f.drop t).take n) s S (by rw[r];exact g);rwa[r] at this
   .have i:¬(cr d w s).2<w.length:=λi=>by
     rw[if_pos (.inr i)] at c;simp[g,i] at c
    rw[if_neg (by simp[g,i])] at c;rw[if_neg g,if_neg i];have U:=G2 hd _ s A (P3 z t n);have V:=G2 hd _ s A N
    have ag:=ztI d hd _ (f.drop (t+n)) (cr d w s).1 (cr d ((f.drop t).take n) s).1 (aaF _) V U (λx j=>z x (aa6 j)) λp B mf=>by
     have C:=O p B mf
     rcases Bool.eq_false_or_eq_true (y8 live (eY (cr d ((f.drop t).take n) s).1 d) (eY (cr d w s).1 d) p) with h|h
     .rw[zrX B h] at c;cases c
     .rw[y8,C,abb,bne_eq_false_iff_eq,zwI U B,zwI V B] at h;exact h.symm
    rw[ag];exact⟨rfl,.inl (by simp only;omega)⟩
  .have F:t<a:=an
   obtain⟨x,j⟩:∃x,f[t]?=some x:=⟨_,aah Q⟩
   have E:f.drop t=x::f.drop (t+1):=by obtain⟨hl,e⟩:=aaa.1 j;rw[aaJ hl,e]
   rw[zp5 F j,E,xN,xN,Mf,zEJ]
   by_cases l:x.op=6
   .have:(ef a (a+n) (n-w.length) t x).k=x.k:=by
     have:aX (6:Int)=false:=by decide
     simp[ef,l,this]
    rw[if_pos l,if_pos l,this];exact⟨rfl,.inl (aaF _)⟩
   rw[if_neg l,if_neg l]
   by_cases u:x.op=22
   .rw[if_pos u,if_pos u];exact⟨rfl,.inl (aaF _)⟩
   rw[if_neg u,if_neg u]
   by_cases D:(dJ s x d).2=true
   case neg =>
    rw[if_neg D,if_neg D];exact⟨rfl,.inl (aaF _)⟩
   rw[if_pos D,if_pos D]
   have G:fW x.op=false:=by simp[fW,l,u]
   have b:=OE G s;have W:=Ei K j b;obtain⟨q,H⟩:=bb (goes s x);rw[<-H] at b W |-
   have I:t+1+q<=a\/a+n<=t+1+q:=by
    by_cases v:t+1+q<=a
    .exact .inl v
    .by_cases uH:a+n<=t+1+q
     .exact .inr uH
     .exfalso;have o:=zCl y j (t:=t+1+q) an an;unfold aY at b;rw[G] at b;simp only[aau,if_false] at b;unfold AE at o
      by_cases J:x.op=5
      .rw[if_pos J,aaY] at b;rw[if_pos J,b] at o;simp at o
      .rw[if_neg J] at b o
       cases C:aX x.op with
       | true =>
        rw[C] at b o;simp only[if_true,aaG,aaZ,or_false] at b;simp only[abb,abB,decide_eq_false_iff_not] at o
        omega
       | false =>
        rw[C] at b;simp only[aau,if_false,aaY] at b;omega
   have X:=zr1 K y Y Z L M z N hd O P m (t+1+q) (dJ s x d).1 an W I (Gl A (z x (aaA j)) hd)
   have fM:t+1+goes s (ef a (a+n) (n-w.length) t x)=if t+1+q<=a then t+1+q else t+1+q-(n-w.length):=by
    rcases Co a (a+n) (n-w.length) t s G F with h|⟨h,h'⟩
    .rw[h,<-H,ee]
     rcases I with v|v
     .rw[if_pos v,if_neg an]
     .rw[if_pos ⟨F,v⟩,if_neg an];omega
    .rw[h'];rw[<-H] at h;rw[h] at I |-;rw[if_pos an]
   rw[abD,abD,fM];refine⟨X.1,?_⟩
   rcases X.2 with h|h
   .left;simp only;omega
   .exact .inr h
def bP(m:List Bool)(n:Nat):Nat:=(m.take n).countP id
def kS(m:List Bool)(x:af):af:=if x.op=5 then{ x with k:=bP m x.k } else if aX x.op then{ x with jt:=(bP m x.jt.toNat:Nat),jf:=(bP m x.jf.toNat:Nat) } else x
def dO:List af->List Bool->List af
 | x::f,true::m=>kS m x::dO f m
 | _::f,false::m=>dO f m
 | _,_=>[]
def lP:List af->List Bool->Prop
 | x::f,b::m=>(b=true->∀o∈aY x,m[o]?=some true)/\lP f m
 | [],[]=>True
 | _,_=>False
def G_:∀{f:List af} {m:List Bool},lP f m->f.length=m.length
 | [],[],_=>rfl
 | [],_::_,h=>by cases h
 | _::_,[],h=>by cases h
 | x::f,b::m,h=>by simp[G_ h.2]
def zuu:∀{f:List af} {m:List Bool} (o:Nat),lP f m->lP (f.drop o) (m.drop o)
 | _,_,0,h=>by simpa using h
 | [],[],o+1,h=>by simp[lP]
 | [],_::_,_+1,h=>by cases h
 | _::_,[],_+1,h=>by cases h
 | x::f,b::m,o+1,h=>by simpa using zuu o h.2
def zoR(b:Bool)(m:List Bool)(n:Nat):bP (b::m) (n+1)=(if b then 1 else 0)+bP m n:=by cases b<;>simp[bP,abT]
def JS(m:List Bool):bP m 0=0:=by simp[bP]
def UL:∀(f:List af) (m:List Bool) (o:Nat),f.length=m.length->(dO f m).drop (bP m o)=dO (f.drop o) (m.drop o)
 | f,m,0,h=>by simp[JS]
 | [],m,o+1,h=>by
  have:m=[]:=acm (by simpa using h.symm);subst this
  simp[dO]
 | x::f,[],o+1,h=>by simp at h
 | x::f,b::m,o+1,h=>by
  have a:=UL f m o (by simpa using h);rw[zoR]
  cases b with
  | true =>
   rw[if_pos rfl,dO,abT,abH,a];rfl
  | false =>
   simp only[aau,if_false,abm,dO];rw[a];rfl
def JT(m:List Bool)(x:af):(kS m x).op=x.op:=by
 unfold kS;split
 .rfl
 .split<;>rfl
def zEK(m:List Bool)(s:St)(x:af)(d:Da):dJ s (kS m x) d=dJ s x d:=by
 by_cases a:x.op=5
 .have b:bf (5:Int)=(0,false,false):=by decide
  have c:(kS m x).op=5:=by rw[JT,a]
  have o:∀y:af,y.op=5->dJ s y d=(s,true):=λy e=>by
   simp only[dJ,e,b,aau,if_false,ic];simp
  rw[o _ c,o _ a]
 .unfold kS;rw[if_neg a]
  split<;>rfl
def zEL(m:List Bool)(s:St)(x:af):goes s (kS m x)=bP m (goes s x):=by
 have b:=JT m x
 by_cases a:x.op=5
 .simp only[goes,b,a,if_true];simp[kS,a]
 by_cases c:aX x.op=true
 .have d:kS m x={ x with jt:=(bP m x.jt.toNat:Nat),jf:=(bP m x.jf.toNat:Nat) }:=by rw[kS,if_neg a,if_pos c]
  have e:bG s (kS m x)=bG s x:=by rw[d];rfl
  simp only[goes,b,if_neg a,c,if_true,e];rw[d]
  cases bG s x<;>simp
 .simp[goes,b,a,c,JS]
def zyQ(d:Da):∀(n:Nat) (f:List af) (m:List Bool) (s:St),f.length<=n->lP f m->m[0]?=some true->run d (dO f m) s=run d f s
 | _,[],[],_,_,_,h=>by cases h
 | _,[],_::_,_,_,h,_=>by cases h
 | _,_::_,[],_,_,h,_=>by cases h
 | 0,_::_,_,_,h,_,_=>by simp at h
 | n+1,x::f,b::m,s,j,g,i=>by
  simp only[abk,abC.injEq] at i;subst i;rw[dO,xN,xN,JT,zEK,zEL]
  by_cases a:x.op=6
  .have l:(kS m x).k=x.k:=by
    have:aX (6:Int)=false:=by decide
    simp[kS,a,this]
   rw[if_pos a,if_pos a,l]
  rw[if_neg a,if_neg a]
  by_cases c:x.op=22
  .rw[if_pos c,if_pos c]
  rw[if_neg c,if_neg c]
  by_cases e:(dJ s x d).2=true
  case neg=>rw[if_neg e,if_neg e]
  rw[if_pos e,if_pos e]
  have o:fW x.op=false:=by simp[fW,a,c]
  have p:=g.1 rfl _ (OE o s);have q:=zyQ d n (f.drop (goes s x)) (m.drop (goes s x)) (dJ s x d).1 (by simp at j |-;omega) (zuu _ g.2) (by rw[abc,abU];exact p);rw[UL f m _ (G_ g.2),q]
def JU:∀(f:List af) (m:List Bool),f.length=m.length->(dO f m).length=m.countP id
 | [],[],_=>rfl
 | [],_::_,h=>by simp at h
 | _::_,[],h=>by simp at h
 | x::f,true::m,h=>by simp[dO,JU f m (by simpa using h)]
 | x::f,false::m,h=>by simp[dO,JU f m (by simpa using h)]
def zs7{m:List Bool}{o:Nat}(h:m[o]?=some true):bP m o<m.countP id:=by
 have a:=(aaa.1 h).1
 have e:m=m.take o++true::m.drop (o+1):=by have:=aaJ a;rw[(aaa.1 h).2] at this;rw[<-this,acF]
 rw[bP]
 conv=>rhs;rw[e,ac0,ac4]
 simp
def Mg(m:List Bool)(o:Nat):bP m o<=o:=by have:=acG (p:=id) (l:=m.take o);rw[bP];have a:=List.length_take_le o m;omega
def zCm{x:af}(m:List Bool)(h:jS x=true)(j:kJ x=true):jS (kS m x)=true/\kJ (kS m x)=true:=by
 have p:=Av h;have l:∀n,bP m n<=n:=Mg m;obtain⟨a,d,f,k⟩:=x
 by_cases g:a=5
 .subst g
  have b:aX 5=false:=by decide
  simp only[kS,if_true];constructor
  .simp only[jS] at h |-
   have c:oG 5=some (5,[106,97],true,false):=by decide
   simp only[c] at h |-;simpa using h
  .simp[kJ]
 .cases b:aX a
  .simp[kS,g,b,h,j]
  .obtain⟨q,s,t,u⟩:=p b;simp only at q s t u
   have e:kS m ⟨a,d,f,k⟩=⟨a,(bP m d.toNat:Nat),(bP m f.toNat:Nat),k⟩:=by simp[kS,g,b]
   rw[e];constructor
   .simp only[jS] at h |-
    cases c:oG a with
    | none=>rw[c] at h;cases h
    | some r =>
     rw[c] at h;simp only[aae] at h |-;refine⟨h.1,?_⟩;have o:=h.2;have v:=l d.toNat;have w:=l f.toNat;split at o
     .rename_i i;rw[if_pos i,decide_eq_true_eq];omega
     .rename_i i;rw[decide_eq_true_eq] at o;rw[if_neg i,decide_eq_true_eq];omega
   .simpa[kJ] using j
def zoS:∀{f:List af} {m:List Bool},lP f m->jF f=true->jF (dO f m)=true
 | [],[],_,_=>rfl
 | [],_::_,h,_=>by cases h
 | _::_,[],h,_=>by cases h
 | x::f,false::m,h,c=>by
  rw[jF,aae] at c;rw[dO]
  exact zoS h.2 c.2
 | x::f,true::m,h,c=>by
  rw[jF,aae] at c;rw[dO,jF,aae];refine⟨?_,zoS h.2 c.2⟩;have g:=c.1;simp only[cd,aae] at g;obtain⟨⟨⟨j,l⟩,p⟩,q⟩:=g;obtain⟨p1,p2⟩:=zCm m j l;have d:=h.1 rfl;rw[cd,p1,p2,JU f m (G_ h.2),JT];simp only[abb,aae];constructor
  .by_cases a:x.op=5
   .have:=d x.k (by have:fW (5:Int)=false:=ah9;simp[aY,a,this]);rw[if_pos a,decide_eq_true_eq];simp only[kS,if_pos a];exact zs7 this
   .rw[if_neg a]
  .by_cases b:aX x.op=true
   .have a:x.op≠5:=λe=>by rw[e] at b;revert b;decide
    have i:fW x.op=false:=by rcases xJ b with e|e|e|e|e|e|e|e<;>rw[e]<;>decide
    have n:=d x.jt.toNat (by simp[aY,i,a,b]);have o:=d x.jf.toNat (by simp[aY,i,a,b]);have r:=zs7 n;have s:=zs7 o;rw[if_pos b,decide_eq_true_eq];simp only[kS,if_neg a,if_pos b];omega
   .rw[if_neg b]
def zwJ:∀{f:List af} {m:List Bool},f.length=m.length->m.any id=false->dO f m=[]
 | [],[],_,_=>rfl
 | [],_::_,h,_=>by simp at h
 | _::_,[],h,_=>by simp at h
 | x::f,true::m,_,h=>by simp at h
 | x::f,false::m,h,a=>by
  rw[dO];exact zwJ (by simpa using h) (by simpa using a)
def zwK:∀{f:List af} {m:List Bool},f.length=m.length->m.any id=true->dO f m≠[]
 | [],[],_,h=>by simp at h
 | [],_::_,h,_=>by simp at h
 | _::_,[],h,_=>by simp at h
 | x::f,true::m,_,_=>by simp[dO]
 | x::f,false::m,h,a=>by
  rw[dO];exact zwK (by simpa using h) (by simpa using a)
def zCn{x:af}{f:List af}(h:f≠[]):kK (x::f)=kK f:=by
 cases f with
 | nil=>exact absurd rfl h
 | cons y f=>simp[kK,List.getLast?_cons_cons]
def zG7{x:af}(h:fW x.op=false):aY x≠[]:=by
 unfold aY;rw[h];simp only[aau,if_false];split
 .simp
 .split<;>simp
def zyR:∀{f:List af} {m:List Bool},lP f m->m.any id=true->kK (dO f m)=true
 | [],[],_,h=>by simp at h
 | [],_::_,h,_=>by cases h
 | _::_,[],h,_=>by cases h
 | x::f,b::m,h,c=>by
  have d:=G_ h.2
  cases a:m.any id with
  | true =>
   have e:=zyR h.2 a
   cases b with
   | true=>rw[dO,zCn (zwK d a),e]
   | false=>rw[dO,e]
  | false =>
   have i:b=true:=by rw[List.any_cons,a] at c;simpa using c
   subst i;rw[dO,zwJ d a];simp only[kK,List.getLast?_singleton,JT]
   cases j:fW x.op with
   | true=>rfl
   | false =>
    exfalso
    cases g:aY x with
    | nil=>exact zG7 j g
    | cons o l =>
     have:=h.1 rfl o (by rw[g];simp);have k:=aaA this;have:m.any id=true:=abX.2 ⟨true,k,rfl⟩;rw[a] at this;cases this
def zCo{f:List af}{m:List Bool}(b:du f=true)(a:lP f m)(c:m[0]?=some true):du (dO f m)=true:=by have d:=G_ a;have g:=JU f m d;have h:=acG (p:=id) (l:=m);have e:m.any id=true:=abX.2 ⟨true,aaA c,rfl⟩;simp only[du,aae,decide_eq_true_eq] at b |-;exact⟨⟨an,zoS a b.1.2⟩,zyR a e⟩
def zyS:∀{f:List af} {m:List Bool},f.length=m.length->(∀b∈m,b=true)->jF f=true->dO f m=f
 | [],[],_,_,_=>rfl
 | [],_::_,h,_,_=>by simp at h
 | _::_,[],h,_,_=>by simp at h
 | x::f,b::m,h,e,g=>by
  have a:b=true:=e b ir;subst a;rw[jF,aae] at g
  have o:f.length=m.length:=by simpa using h
  have i:∀n,n<=m.length->bP m n=n:=λn y=>by
   have:(m.take n).countP id=(m.take n).length:=List.countP_eq_length.2 λb a=>e b (by simp[abi a]);rw[bP,this,aav];omega
  rw[dO,zyS o (λb a=>e b (by simp[a])) g.2];have j:=g.1;simp only[cd,aae] at j;obtain⟨⟨⟨p,z⟩,q⟩,r⟩:=j;have s:=Av p
  congr 1
  obtain⟨l,A,B,k⟩:=x
  by_cases c:l=5
  .simp only[c,if_true,decide_eq_true_eq] at q;simp only[kS,c,if_true];rw[i k an]
  .cases d:aX l
   .simp[kS,c,d]
   .obtain⟨t,u,v,w⟩:=s d;simp only[d,if_true,decide_eq_true_eq] at r;simp only at t u v w;simp only[kS,c,d,if_true,if_false];rw[i _ an,i _ an];simp;omega
def k_(x:af):Bool:=((bf x.op).2.2&&!(bf x.op).2.1)||decide (x.op=0)||decide (x.op=1)
def la(w:List af):List Nat:=(w.filter k_).map af.k
def zCp(w:List af)(x:af):la (w++[x])=if k_ x then la w++[x.k] else la w:=by
 unfold la;rw[List.filter_append,adb]
 by_cases h:k_ x=true<;>simp[h]
def UM(w:List af):(la w).length<=w.length:=by simp[la,List.length_filter_le]
noncomputable def Af(w:List af):List Nat :=
 (dw (aK [] w).L ((aK [] w).p.getD 0 0)).toList++((dq (aR 34) (aK [] w).L ((aK [] w).p.getD 0 0)).toList++(dq (4294967295::aR 33) (aK [] w).L ((aK [] w).p.getD 0 0)).toList)
def zG8[cB G](H:ae):bE G (.F 256 [] H (.ptr (H.length+1) 0) (H++[some (.map []),some (.cells [.vs [] .full,.mp H.length])])):=by refine fg cB.aeC (aaf rfl) ?_;simp
def BH(a:Option ay)(L:List Nd):ae:=[a,some (.map (ents L)),some (zU L 3 1),some (.zone L.length)]
def zFF{a:Option ay}{L:List Nd}(b:∀n,a.map (ay.cl n)=a)(c:∀x∈L,x.ok)(d:L.length<=1000000):Bk (BH a L) 2 3 1 L:=by refine⟨rfl,rfl,rfl,λn e=>?_,c,d⟩;simp only[BH,aap,ach] at e;simp[BH,zU,ay.cl,b,aZ,V.cl,Tk.cl,ents,Zc,show 3<n by omega,show 1<n by omega]
def zz6[dT G][dy G][aE G][aD G][aQ G][au G][hB:je G][cB G][aN G][de G][cu G][ga G](w:List af)(hf:w.length<=maxLen)(hk:∀x∈w,x.k<4294967296)(I:a_ w=true) :
  FP G 326 [FL w] (.vs (aq .u32 (la w++Af w)) .no):=by
 haveI:bJ G:=hB.tobJ
 refine bw ga.afa (aaf rfl) ?_;obtain⟨L,U⟩:=bb ((aK [] w).L);have W:=Cb Inv.nil w hk
 have hi:Inv L:=by rw[U];exact W.ext.inv
 have qJ:w.length<=32:=by simp only[a_,aae,decide_eq_true_eq] at I;exact I.1
 have QY:L.length<=114:=by rw[U];have:=W.ext.len;simp at this;omega
 obtain⟨X,J⟩:=bb (yb [] w)
 have K:X.length=19:=by rw[J];exact zs4 Inv.nil hk
 have l:∀n,aZ n X=X:=λn=>by rw[J];exact zwD w n
 have nX:X.map V.jA=X:=by rw[J,yb,if_pos I,vcs];simp[nA,aas,V.jA]
 obtain⟨p0,Om⟩:=bb ((aK [] w).p.getD 0 0)
 have M:X.take 1=[.int .i64 p0]:=by rw[J,yb,if_pos I,zwq W.len,Om,aa2,aah (show 0<(aK [] w).p.length by rw[W.len];decide)];rfl
 have Gw:∀k,Bk (BH (some (.zone k)) []) 2 3 1 []:=λk=>zFF (λn=>rfl) ir ir;have o:∀k,Bk (BH (some (.zone k)) L) 2 3 1 L:=λk=>zFF (λn=>rfl) hi.ok an
 have he:∀k,Bk (BH (some (.zone k)) L++[some (.cells X)]) 2 3 1 L:=λk=>(o k).app λn=>by simp[ay.cl,l]
 have mT:=λk=>zwC (G:=G) w ((Gw k).app (r:=[none]) λn=>by simp) Inv.nil ah9 hf hk
 have e1:∀k,dE (BH (some (.zone k)) []) 2 3 1 (Ae [] w)=BH (some (.zone k)) L:=λk=>by rw[U,Ae,if_pos I];rfl
 have mT:∀k,SF G 296 [.ptr 2 0,.vs (IL w) .no] (BH (some (.zone k)) []++[none]) (.bc [.agg X,.bool true]) (BH (some (.zone k)) L++[none]):=λk=>by
  have:=mT k;rw[(Gw k).cA,<-J,e1,I] at this;exact this
 have Y:=λk=>zoD (G:=G) p0 (he k);have yq:=fun(k:Nat) (r:ae) (hr:∀n,r.map (aaU (ay.cl n))=r)=>zBS (G:=G) p0 (aR 34) ((o k).app hr) hi ir (x7 34);have va:=fun(k:Nat) (r:ae) (hr:∀n,r.map (aaU (ay.cl n))=r)=>zBS (G:=G) p0 (4294967295::aR 33) ((o k).app hr) hi ir (λc Y=>by rcases aaG.1 Y with rfl|h;decide;exact x7 33 c h)
 have D:Af w=(dw L p0).toList++((dq (aR 34) L p0).toList++(dq (4294967295::aR 33) L p0).toList):=by rw[U,Om];rfl
 rw[D];generalize dw L p0=m at Y |-;generalize dq (aR 34) L p0=o2 at yq |-;generalize dq (4294967295::aR 33) L p0=o3 at va |-;obtain⟨T,D⟩:∃T:Nat->List Nat,∀j,T j=la (w.take j):=⟨_,λ_=>rfl⟩
 have T0:T 0=[]:=by rw[D];rfl
 have TN:T w.length=la w:=by rw[D,abd]
 have Tl:∀i,(T i).length<=i:=λi=>by rw[D];exact acT (UM _) (by rw[aav];omega)
 simp[FL];refine aO w.length (λi=>[(0,FL w),(3,.vs (aq .u32 (T i)) (.own 0)),(18,FL w),(19,.int .i64 w.length),(20,.int .i64 i)]) (λi=>[some (.zone (T i).length)]) (λ_=>True) ?_ ?_
 .simp[av,ak,FL,T0]
 intro i qS _
 by_cases q:i<w.length
 .obtain⟨x,hx⟩:=bb (w[i])
  have hg:w[i]?=some x:=by rw[aah q,hx]
  have eM:=sC q;rw[<-hx] at eM;have dR:=K5 (G:=G) x;have dK:x.cs=[.int .i64 x.op,.int .i64 x.jt,.int .i64 x.jf,.int .u32 x.k]:=rfl;have hl:=Tl i
  have d:T (i+1)=if k_ x then T i++[x.k] else T i:=by rw[D,D,abf,hg];exact zCp _ _
  simp only[IV,dK] at dR;have e:aq .u32 (T i)++[[V.int .u32 x.k]]=aq .u32 (T i++[x.k]):=KZ .u32 (T i) x.k;simp(disch:=omega)[bC,FL,eM,dK];refine aw dR ?_
  cases ha:(bf x.op).2.2 with
  | true =>
   cases C:(bf x.op).2.1 with
   | false =>
    have g:k_ x=true:=by simp[k_,ha,C]
    rw[if_pos g] at d
    have s:(T (i+1)).length=(T i).length+1:=by rw[d];simp
    rw[<-d] at e
    simp(disch:=omega)[aB,q,e,s,bA,av,ak,-aab]
   | true =>
    by_cases t:x.op=0
    .have g:k_ x=true:=by simp[k_,t]
     rw[if_pos g] at d
     have s:(T (i+1)).length=(T i).length+1:=by rw[d];simp
     rw[<-d] at e;simp(disch:=omega)[aB,q,t,e,s,bA,av,ak,-aab]
    by_cases m:x.op=1
    .have g:k_ x=true:=by simp[k_,m]
     rw[if_pos g] at d
     have s:(T (i+1)).length=(T i).length+1:=by rw[d];simp
     rw[<-d] at e;simp(disch:=omega)[aB,q,m,e,s,bA,av,ak,-aab]
    have g:k_ x=false:=by simp[k_,C,t,m]
    rw[g] at d;simp only[aau,if_false] at d
    simp(disch:=omega)[aB,q,aG t,aG m,d,bA,av,ak,-aab]
  | false =>
    by_cases t:x.op=0
    .have g:k_ x=true:=by simp[k_,t]
     rw[if_pos g] at d
     have s:(T (i+1)).length=(T i).length+1:=by rw[d];simp
     rw[<-d] at e;simp(disch:=omega)[aB,q,t,e,s,bA,av,ak,-aab]
    by_cases m:x.op=1
    .have g:k_ x=true:=by simp[k_,m]
     rw[if_pos g] at d
     have s:(T (i+1)).length=(T i).length+1:=by rw[d];simp
     rw[<-d] at e;simp(disch:=omega)[aB,q,m,e,s,bA,av,ak,-aab]
    have g:k_ x=false:=by simp[k_,ha,t,m]
    rw[g] at d;simp only[aau,if_false] at d;simp(disch:=omega)[aB,q,aG t,aG m,d,bA,av,ak,-aab]
 .have az:i=w.length:=an
  subst az;have FJ:=UM w;obtain⟨O,hO⟩:=bb (la w);simp only[TN,<-hO];rw[<-hO] at FJ;simp[FL];refine vh (zG8 _) ir ?_;simp;rw[show([some (.zone O.length),some (.map []),some (.cells [.vs [] (.own 3),.mp 1]),some (.zone 0),none]:ae)=BH (some (.zone O.length)) []++[none] from rfl];refine cP (mT _) ?_;have b:∀k,(BH (some (.zone k)) L).length=4:=λk=>rfl;have kk:∀(k:Nat) (r:ae),(BH (some (.zone k)) L++r)[4]?=r[0]?:=λk r=>oW (b k)
  have k0:∀(k:Nat) (r:ae) x,(BH (some (.zone k)) L++r).set 4 x=BH (some (.zone k)) L++r.set 0 x:=λk r x=>tY (b k) x;have N:∀(k:Nat) (r:ae),(BH (some (.zone k)) L++r)[0]?=some (some (.zone k)):=λk r=>rfl;have P:∀(k n:Nat) (r:ae),(BH (some (.zone k)) L++r).set 0 (some (.zone n))=BH (some (.zone n)) L++r:=λk n r=>rfl;obtain⟨Z,hZ⟩:∃Z:List V,Z=vcs (abt 18 0) [] .full:=⟨_,rfl⟩
  have lZ:Z.length=19:=by rw[hZ];rfl
  have JE:=zJE.trans hZ.symm
  have tX:X.take 19=X:=aaj an;have dZ:Z.drop 19=[]:=aan an;simp[JE,lZ,kk,k0,K,dZ];simp[M];refine cP (Y _) ?_
  rcases m with _|a
  .obtain⟨f,u⟩:=bb (O++[])
   have hh:f.length<=40:=by rw[u];simp;omega
   obtain⟨F,v⟩:∃F:Nat->List Nat,∀i,F i=f++(if i=0 then [] else if i=1 then o2.toList else o2.toList++o3.toList):=⟨_,λ_=>rfl⟩
   have E:F 0=f:=by rw[v];simp
   have z:F 1=f++o2.toList:=by rw[v];simp
   have H:F 2=F 1++o3.toList:=by rw[v,z];simp
   have lF:∀i,(F i).length<=42:=λi=>by
    rw[v];split
    .simp;omega
    .split
     .cases o2<;>simp<;>omega
     .cases o2<;>cases o3<;>simp<;>omega
   simp(disch:=omega)[b,aB]
   have hj:O=f:=by rw[u];simp
   refine aO 2 (λi=>[(3,.vs (aq .u32 (F i)) (.own 0)),(9,.ptr 2 0),(10,.ptr 4 0),(71,.agg [.int .u32 0,.int .u32 4294967295]),(72,.int .i64 i)]) (λi=>BH (some (.zone (F i).length)) L++[some (.cells X)]) (λ_=>True) ?_ ?_
   .have:=((o f.length).app (r:=[some (.cells X)]) λn=>by simp[ay.cl,l]).shut.self;simp[b] at this;simp[av,b,E,this,hj]
   intro i hm _;have hn:=lF i
   have Q:aC .i64 0 1=1:=by decide
   have R:aC .i64 1 1=2:=by decide
   have S:∀k:Nat,ak 5 (BH (some (.zone k)) L++[some (.cells X)])=BH (some (.zone k)) L++[some (.cells X)]:=λk=>by
    have:=((o k).app (r:=[some (.cells X)]) λn=>by simp[ay.cl,l]).shut.self;simpa[b] using this
   have C:∀(k:Nat),ak 5 (BH (some (.zone k)) L++[some (.cells X),none])=BH (some (.zone k)) L++[some (.cells X)]:=λk=>by
    have:=((o k).app (r:=[some (.cells X)]) λn=>by simp[ay.cl,l]).shut.back [none];simpa[b] using this
   by_cases h0:i=0
   .subst h0;simp[b,K,M];refine cP (yq _ _ λn=>by simp[ay.cl,l]) ?_
    cases o2 with
    | none =>
     have A:F 1=F 0:=by rw[z,E];simp
     simp[b,av,S,Q,A]
    | some y =>
     have A:F 1=F 0++[y]:=by rw[z,E];simp
     have l1:(F 1).length=(F 0).length+1:=by rw[A];simp
     have e:aq .u32 (F 0)++[[V.int .u32 y]]=aq .u32 (F 1):=by rw[A];exact KZ .u32 (F 0) y
     simp(disch:=omega)[b,N,P,aB,av,C,Q,e,l1]
   by_cases h1:i=1
   .subst h1;simp[b,K,M];refine cP (va _ _ λn=>by simp[ay.cl,l]) ?_
    cases o3 with
    | none =>
     have B:F 2=F 1:=by rw[H];simp
     simp[b,av,S,R,B]
    | some y =>
     have B:F 2=F 1++[y]:=by rw[H];simp
     have l2:(F 2).length=(F 1).length+1:=by rw[B];simp
     have e:aq .u32 (F 1)++[[V.int .u32 y]]=aq .u32 (F 2):=by rw[B];exact KZ .u32 (F 1) y
     simp(disch:=omega)[b,N,P,aB,av,C,R,e,l2]
   obtain rfl:i=2:=by omega
   have cM:F 2=O++((none:Option Nat).toList++(o2.toList++o3.toList)):=by rw[H,z,u];simp
   simp[cM]
  .obtain⟨f,u⟩:=bb (O++[a])
   have hh:f.length<=40:=by rw[u];simp;omega
   obtain⟨F,v⟩:∃F:Nat->List Nat,∀i,F i=f++(if i=0 then [] else if i=1 then o2.toList else o2.toList++o3.toList):=⟨_,λ_=>rfl⟩
   have E:F 0=f:=by rw[v];simp
   have z:F 1=f++o2.toList:=by rw[v];simp
   have H:F 2=F 1++o3.toList:=by rw[v,z];simp
   have lF:∀i,(F i).length<=42:=λi=>by
    rw[v];split
    .simp;omega
    .split
     .cases o2<;>simp<;>omega
     .cases o2<;>cases o3<;>simp<;>omega
   simp(disch:=omega)[b,N,P,aB]
   have hp:aq .u32 O++[[V.int .u32 a]]=aq .u32 f:=by rw[u];exact KZ .u32 O a
   have ho:O.length+1=f.length:=by rw[u];simp
   refine aO 2 (λi=>[(3,.vs (aq .u32 (F i)) (.own 0)),(9,.ptr 2 0),(10,.ptr 4 0),(71,.agg [.int .u32 0,.int .u32 4294967295]),(72,.int .i64 i)]) (λi=>BH (some (.zone (F i).length)) L++[some (.cells X),none]) (λ_=>True) ?_ ?_
   .have:=((o f.length).app (r:=[some (.cells X),none]) λn=>by simp[ay.cl,l]).shut.self;simp[b] at this;simp[av,b,E,this,u.symm,ho]
   intro i hm _;have hn:=lF i
   have Q:aC .i64 0 1=1:=by decide
   have R:aC .i64 1 1=2:=by decide
   have S:∀k:Nat,ak 6 (BH (some (.zone k)) L++[some (.cells X),none])=BH (some (.zone k)) L++[some (.cells X),none]:=λk=>by
    have:=((o k).app (r:=[some (.cells X),none]) λn=>by simp[ay.cl,l]).shut.self;simpa[b] using this
   have C:∀(k:Nat),ak 6 (BH (some (.zone k)) L++[some (.cells X),none,none])=BH (some (.zone k)) L++[some (.cells X),none]:=λk=>by
    have:=((o k).app (r:=[some (.cells X),none]) λn=>by simp[ay.cl,l]).shut.back [none];simpa[b] using this
   by_cases h0:i=0
   .subst h0;simp[b,K,M];refine cP (yq _ _ λn=>by simp[ay.cl,l]) ?_
    cases o2 with
    | none =>
     have A:F 1=F 0:=by rw[z,E];simp
     simp[b,av,S,Q,A]
    | some y =>
     have A:F 1=F 0++[y]:=by rw[z,E];simp
     have l1:(F 1).length=(F 0).length+1:=by rw[A];simp
     have e:aq .u32 (F 0)++[[V.int .u32 y]]=aq .u32 (F 1):=by rw[A];exact KZ .u32 (F 0) y
     simp(disch:=omega)[b,N,P,aB,av,C,Q,e,l1]
   by_cases h1:i=1
   .subst h1;simp[b,K,M];refine cP (va _ _ λn=>by simp[ay.cl,l]) ?_
    cases o3 with
    | none =>
     have B:F 2=F 1:=by rw[H];simp
     simp[b,av,S,R,B]
    | some y =>
     have B:F 2=F 1++[y]:=by rw[H];simp
     have l2:(F 2).length=(F 1).length+1:=by rw[B];simp
     have e:aq .u32 (F 1)++[[V.int .u32 y]]=aq .u32 (F 2):=by rw[B];exact KZ .u32 (F 1) y
     simp(disch:=omega)[b,N,P,aB,av,C,R,e,l2]
   obtain rfl:i=2:=by omega
   have cM:F 2=O++((some a).toList++(o2.toList++o3.toList)):=by rw[H,z,u];simp
   simp[cM]
def qY(l:List af)(x:af):List af:=if x∈l then l else if a_ [x]=true then l++[x] else l
def UO(l:List af)(x:af):(qY l x).length<=l.length+1:=by unfold qY;split;omega;split<;>simp
def xa(l:List af):List (V×V):=l.map λx=>(IV x,.bool true)
def zCq{x:af}:∀{l:List af} (i:Nat),x∈l->kc (.row [.int,.int,.int,.int]) (.agg x.cs) (xa l) i=some (some (i+l.idxOf x,.bool true))
 | [],i,h=>by cases h
 | y::l,i,h=>by
  simp only[xa,abI,kc,ka,IV,E9]
  by_cases e:x=y
  .subst e;simp
  .have b:x∈l:=by simpa[e] using h
   have a:=zCq (i+1) b
   have c:(y::l).idxOf x=l.idxOf x+1:=by rw[List.idxOf_cons,beq_false_of_ne (Ne.symm e)];rfl
   simp only[xa,IV] at a;simp only[e,decide_false,a,c,show i+1+l.idxOf x=i+(l.idxOf x+1) from an]
def zs8{x:af}:∀{l:List af} (i:Nat),x∉l->kc (.row [.int,.int,.int,.int]) (.agg x.cs) (xa l) i=some none
 | [],i,_=>rfl
 | y::l,i,h=>by
  simp only[aaG,not_or] at h;have a:=zs8 (i+1) h.2;simp only[xa,IV] at a;simp only[xa,abI,kc,ka,IV,E9,h.1,decide_false,a]
def qo(a b:List af)(n:Nat):ae:=[some (.cells [.vs (IL a) (.own 3)]),some (.map (xa b)),some (.cells [.mp 1]),some (.zone n)]
def BL(l:List af):ae:=qo l l l.length
def zs9(a b:List af)(n:Nat):iq (qo a b n):=by
 intro m c;simp only[qo,aap,ach] at c
 have d:(xa b).map (λp=>(p.1.cl m,p.2.cl m))=xa b:=by simp[xa,IV,af.cs,V.cl,aZ,aas]
 simp[qo,ay.cl,aZ,V.cl,Tk.cl,show 3<m by omega,show 1<m by omega,d]
def UP[aE G][aD G][aQ G][fI G](l:List af)(x:af)(r:ae)(D:∀n,r.map (aaU (ay.cl n))=r)(O:l.length<=1000000)(E:x.k<4294967296) :
  SF G 327 [IV x,.ptr 2 0,.ptr 0 0] (BL l++r) (.bc []) (BL (qY l x)++r):=by
 refine kr fI.afb (aaf rfl) ?_;have h:∀a b n,(qo a b n).length=4:=λa b n=>rfl;have m:x.cs.length=4:=rfl;have o:x.cs.take 4=x.cs:=rfl
 have P:∀n,aZ n x.cs=x.cs:=λn=>by simp[af.cs,aZ,V.cl]
 have nx:x.cs.map V.jA=x.cs:=rfl;have F:∀a b n (s:ae),(qo a b n++s)[0]?=some (some (.cells [.vs (IL a) (.own 3)])):=λa b n s=>rfl;have v:∀a b n (s:ae),(qo a b n++s)[1]?=some (some (.map (xa b))):=λa b n s=>rfl;have w:∀a b n (s:ae),(qo a b n++s)[2]?=some (some (.cells [.mp 1])):=λa b n s=>rfl;have H:∀a b n (s:ae),(qo a b n++s)[3]?=some (some (.zone n)):=λa b n s=>rfl;have Q:∀a c b n (s:ae),(qo a b n++s).set 0 (some (.cells [.vs (IL c) (.own 3)]))=qo c b n++s:=λa c b n s=>rfl
 have I:∀a b d n (s:ae),(qo a b n++s).set 1 (some (.map (xa d)))=qo a d n++s:=λa b d n s=>rfl;have R:∀a b n e (s:ae),(qo a b n++s).set 3 (some (.zone e))=qo a b e++s:=λa b n e s=>rfl
 have kk:∀a b n (s:ae),(qo a b n++(r++s))[4+r.length]?=s[0]?:=λa b n s=>by
  rw[<-aaq];exact oW (by simp[h])
 have J:∀a b n (s:ae) y,(qo a b n++(r++s)).set (4+r.length) y=qo a b n++(r++s.set 0 y):=λa b n s y=>by
  rw[<-aaq,tY (by simp[h]),aaq]
 have z:(∀y∈x.cs,y.pure=true)=True:=eq_true (λy i=>by simp only[af.cs,aaG,aaZ,or_false] at i;rcases i with rfl|rfl|rfl|rfl<;>rfl);have p:=E9 x x;simp only[decide_true] at p;have A:=Ca (G:=G) [x] (by simp[maxLen]) (λy i=>by simp at i;rw[i];exact E);simp only[FL,IL,abI,acf] at A
 have q:∀a b n (s:ae),ak (4+r.length) (qo a b n++(r++s))=qo a b n++r:=λa b n s=>by
  have:=((zs9 a b n).app D).back s;rw[aaq,aao,h] at this;exact this
 simp[BL,h,IV,m,o,v,w,J,ka,p]
 by_cases g:x∈l
 .have j:qY l x=l:=if_pos g;simp[zCq 0 g,j,q]
 .simp[zs8 0 g,m,o,kk,z];refine aw A ?_
  cases B:a_ [x] with
  | false =>
   have j:qY l x=l:=by rw[qY,if_neg g,B];rfl
   simp[j,q]
  | true =>
   have j:qY l x=l++[x]:=by rw[qY,if_neg g,B];rfl
   have K:xa l++[(V.agg x.cs,V.bool true)]=xa (l++[x]):=by simp[xa,IV]
   have S:IL l++[x.cs]=IL (l++[x]):=by simp[IL]
   have T:x.cs.all V.pure=true:=rfl
   have L:∀f∈IL l,f.length=4:=λf C=>by simp only[IL,abn] at C;obtain⟨y,_,rfl⟩:=C;rfl
   have M:(l.length+1)*32<=140737488355328:=an
   have t:∀a c b n,(qo a b n).set 0 (some (.cells [.vs (IL c) (.own 3)]))=qo c b n:=λa c b n=>rfl;have N:∀a b d n,(qo a b n).set 1 (some (.map (xa d)))=qo a d n:=λa b d n=>rfl;have u:∀a b n e,(qo a b n).set 3 (some (.zone e))=qo a b e:=λa b n e=>rfl;simp[zs8 0 g,ka,p,m,o,F,v,w,H,h,K,I,z,t,u,M,j,q]
def Mh{f:Nat}{cap args:List V}{r:V}{H H':ae}{base:Nat}{d:Option Nat}{os:List aF}{K:List Kt}{e:Env}{Q:Ex->Env->ae->Prop}(h:SF G f (args++cap) H r H')
  (a:WO G base os K (e.put d r) H' Q):KU G false (.fn f cap) args base d os K e H Q:=by
 obtain⟨i,H1,b,c,g⟩:=h;refine kW b (λh=>by cases h) ?_;rw[c,g];exact a
def fY(l xs:List af):List af:=xs.foldl qY l
def Dx:∀(xs l:List af),(fY l xs).length<=l.length+xs.length
 | [],l=>aaF _
 | x::xs,l=>by
  have a:=Dx xs (qY l x);have b:=UO l x;show(fY (qY l x) xs).length<=_;rw[aap];omega
def zuv(l xs:List af)(x:af):fY l (xs++[x])=qY (fY l xs) x:=by simp[fY]
def zxG(l xs ys:List af):fY l (xs++ys)=fY (fY l xs) ys:=by simp[fY]
def Cp:List Nat:=[0,1,4,84,68,164]
def nQ(n:Nat):List af:=Cp.map fun(o:Nat)=>(⟨o,0,0,n⟩:af)
def Ha(w:List af)(a:List Nat):List af:=fY (fY (fY [] w) [⟨7,0,0,0⟩,⟨135,0,0,0⟩]) (a.flatMap nQ)
def zz7[dT G][dy G][aE G][aD G][aQ G][au G][A:je G][cB G][aN G][de G][cu G][ga G][fI G](w:List af)(P:w.length<=maxLen)(E:∀x∈w,x.k<4294967296)(C:a_ w=true)
  (Q:∀n∈la w++Af w,n<4294967296):FP G 330 [FL w] (.bc [FL (Ha w (la w++Af w)),.int .i64 0]):=by
 refine bw fI.afc (aaf rfl) ?_;have F:=Ca (G:=G) w P E;have e:=zz6 (G:=G) w P E C
 have qJ:w.length<=32:=by simp only[a_,aae,decide_eq_true_eq] at C;exact C.1
 have Z:(la w++Af w).length<=35:=by
  have:=UM w;rw[aao,Af];simp only[aao]
  have b:∀o:Option Nat,o.toList.length<=1:=λo=>by cases o<;>simp
  have a1:=b (dw (aK [] w).L ((aK [] w).p.getD 0 0));have a2:=b (dq (aR 34) (aK [] w).L ((aK [] w).p.getD 0 0));have a3:=b (dq (4294967295::aR 33) (aK [] w).L ((aK [] w).p.getD 0 0));omega
 generalize la w++Af w=fG at e Z Q |-;rw[C] at F;simp only[FL] at F e;simp[FL];refine aw F ?_;obtain⟨T,h⟩:∃T:Nat->List af,∀j,T j=fY [] (w.take j):=⟨_,λ_=>rfl⟩
 have T0:T 0=[]:=by rw[h];rfl
 have TN:T w.length=fY [] w:=by rw[h,abd]
 have Tl:∀i,i<=w.length->(T i).length<=i:=λi hi=>by rw[h];have:=Dx (w.take i) [];rw[aav] at this;simp at this;omega
 have c:∀l,(BL l).length=4:=λl=>rfl;have kk:∀l (r:ae),(BL l++r)[4]?=r[0]?:=λl r=>oW (c l);have k0:∀l (r:ae) x,(BL l++r).set 4 x=BL l++r.set 0 x:=λl r x=>tY (c l) x;have bk:∀l (r:ae),ak 4 (BL l++r)=BL l:=λl r=>(zs9 l l l.length).back r;have q:∀l,ak 4 (BL l)=BL l:=λl=>(zs9 l l l.length).self;have H:∀l,(BL l)[0]?=some (some (.cells [.vs (IL l) (.own 3)])):=λl=>rfl;have hE:([some (.cells [.vs [] (.own 3)]),some (.map []),some (.cells [.mp 1]),some (.zone 0)]:ae)=BL []:=rfl
 simp[hE];refine aO w.length (λi=>[(0,FL w),(4,.ptr 0 0),(6,.fn 327 [.ptr 2 0,.ptr 0 0]),(18,FL w),(19,.int .i64 w.length),(20,.int .i64 i)]) (λi=>BL (T i)) (λ_=>True) ?_ ?_
 .simp[av,FL,T0,c,q]
 intro i hi _
 by_cases d:i<w.length
 .obtain⟨x,I⟩:=bb (w[i])
  have hg:w[i]?=some x:=by rw[aah d,I]
  have R:=sC d;rw[<-I] at R;have fD:x.cs.length=4:=rfl;have lL:x.cs.take 4=x.cs:=rfl;have ha:([V.int .i64 0,.int .i64 0,.int .i64 0,.int .u32 0]:List V).drop 4=[]:=rfl;have ze:=E x (I▸aaD d);have nx:x.cs.map V.jA=x.cs:=rfl
  have J:T (i+1)=qY (T i) x:=by rw[h,h,abf,hg];exact zuv _ _ _
  have s:=UP (G:=G) (T i) x [some (.cells x.cs)] (λn=>by simp[ay.cl,af.cs,aZ,V.cl]) (by have:=Tl i hi;omega) ze;simp only[IV] at s;simp(disch:=omega)[bC,FL,R,fD,lL,c,kk,k0];refine Mh s ?_;simp(disch:=omega)[d,J,bA,av,c,bk,-aab]
 .have K:i=w.length:=an
  subst K;have t:=UP (G:=G) (fY [] w) ⟨7,0,0,0⟩ [] (λn=>rfl) (by have:=Dx w [];simp at this;omega) ah9;have f:=UP (G:=G) (qY (fY [] w) ⟨7,0,0,0⟩) ⟨135,0,0,0⟩ [] (λn=>rfl) (by have:=Dx w [];have:=UO (fY [] w) ⟨7,0,0,0⟩;simp at *;omega) ah9;obtain⟨B,A⟩:=bb (qY (qY (fY [] w) ⟨7,0,0,0⟩) ⟨135,0,0,0⟩);rw[<-A] at f
  have IJ:B.length<=34:=by rw[A];have b:=Dx w [];have M:=UO (fY [] w) ⟨7,0,0,0⟩;have S:=UO (qY (fY [] w) ⟨7,0,0,0⟩) ⟨135,0,0,0⟩;simp at b;omega
  have Br:Ha w fG=fY B (fG.flatMap nQ):=by rw[A];rfl
  simp only[IV,af.cs,abw] at t f;simp[FL,TN];refine Mh t ?_;simp;refine Mh f ?_;simp;refine aw e ?_;obtain⟨U,u⟩:∃U:Nat->List af,∀j,U j=fY B ((fG.take j).flatMap nQ):=⟨_,λ_=>rfl⟩
  have U0:U 0=B:=by rw[u];rfl
  have UN:U fG.length=Ha w fG:=by rw[u,abd,Br]
  have Ul:∀i,(U i).length<=34+6*35:=λi=>by
   rw[u];have b:=Dx ((fG.take i).flatMap nQ) B
   have M:((fG.take i).flatMap nQ).length=6*(fG.take i).length:=by
    generalize fG.take i=l
    induction l with
    | nil=>rfl
    | cons a l ih=>rw[abz,aao,ih,aap];simp[nQ,Cp];omega
   rw[M,aav] at b;omega
  simp[H];refine aO fG.length (λi=>[(4,.ptr 0 0),(6,.fn 327 [.ptr 2 0,.ptr 0 0]),(35,.vs (aq .u32 fG) .no),(36,.int .i64 fG.length),(37,.int .i64 i)]) (λi=>BL (U i)) (λ_=>True) ?_ ?_
  .simp[av,U0,c,q]
  intro i hb _
  by_cases d:i<fG.length
  .obtain⟨n,N⟩:=bb (fG[i])
   have z5:fG[i]?=some n:=by rw[aah d,N]
   have UQ:=Q n (N▸aaD d);obtain⟨Y,v⟩:∃Y:Nat->List af,∀j,Y j=fY (U i) ((nQ n).take j):=⟨_,λ_=>rfl⟩
   have Y0:Y 0=U i:=by rw[v];rfl
   have Y6:Y 6=U (i+1):=by rw[v,u,u,aaj (show(nQ n).length<=6 from aaF _),abf,z5];simp[zxG]
   have Yl:∀j,(Y j).length<=34+6*35+6:=λj=>by
    rw[v];have b:=Dx ((nQ n).take j) (U i);have M:=Ul i;have S:(nQ n).length=6:=rfl;rw[aav,S] at b;omega
   obtain⟨g,D⟩:∃g:List V,g=[.int .i64 0,.int .i64 1,.int .i64 4,.int .i64 84,.int .i64 68,.int .i64 164]:=⟨_,rfl⟩
   have l6:g.length=6:=by rw[D];rfl
   have W:∀m,aZ m g=g:=λm=>by rw[D];simp[aZ,V.cl]
   have O:∀j,j<6->(g.drop j).take 1=[.int .i64 (Cp.getD j 0:Nat)]:=λj hj=>by
    rw[D]
    rcases(by omega:j=0\/j=1\/j=2\/j=3\/j=4\/j=5) with rfl|rfl|rfl|rfl|rfl|rfl<;>rfl
   simp(disch:=omega)[bC,N.symm,<-D,H];refine aO 6 (λj=>[(4,.ptr 0 0),(6,.fn 327 [.ptr 2 0,.ptr 0 0]),(10,.int .u32 n),(35,.vs (aq .u32 fG) .no),(36,.int .i64 fG.length),(37,.int .i64 i),(41,.agg g),(42,.int .i64 j)]) (λj=>BL (Y j)) (λ_=>True) ?_ ?_
   .simp[av,Y0,c,q,W]
   intro j hj _
   by_cases y:j<6
   .obtain⟨o,X⟩:=bb (Cp.getD j 0)
    have J:Y (j+1)=qY (Y j) ⟨o,0,0,n⟩:=by
     rw[v,v,abf,<-zuv]
     congr 2
     have:(nQ n)[j]?=some ⟨o,0,0,n⟩:=by
      rw[X]
      rcases(by omega:j=0\/j=1\/j=2\/j=3\/j=4\/j=5) with rfl|rfl|rfl|rfl|rfl|rfl<;>rfl
     rw[this];rfl
    have z:=O j y;rw[<-X] at z;have s:=UP (G:=G) (Y j) ⟨o,0,0,n⟩ [] (λn=>rfl) (by have:=Yl j;omega) UQ;simp only[IV,af.cs,abw] at s;simp(disch:=omega)[bC,l6,z,aB];refine Mh s ?_;simp(disch:=omega)[y,J,bA,av,c,q,W,-aab]
   .obtain rfl:j=6:=by omega
    simp(disch:=omega)[d,bA,av,c,q,Y6,-aab]
  .have K:i=fG.length:=an
   subst K;simp[H,UN]
def UT(L:List af):List (List af):=L.flatMap λx=>L.map λy=>[x,y]
def qZ(w L:List af):List (List af) :=
 if w.length=0 then [] else []::(if w.length=1 then [] else L.map (λx=>[x])++(if w.length=2 then [] else UT L))
def zuw{L:List af}{i j:Nat}{x y:af}:∀{K:List af},K[i]?=some x->L[j]?=some y->(K.flatMap λx=>L.map λy=>[x,y])[i*L.length+j]?=some [x,y]
 | [],h,_=>by simp at h
 | z::K,h,a=>by
  have b:=(aaa.1 a).1;rw[abz]
  cases i with
  | zero =>
   simp only[abk,abC.injEq] at h;subst h
   rw[Nat.zero_mul,abm,aai (by simpa using b),abA,a];rfl
  | succ i =>
   rw[aba] at h;rw[abp (by rw[ab3,acz];omega),ab3,show(i+1)*L.length+j-L.length=i*L.length+j by rw[acz];omega];exact zuw h a
def zux(L:List af):∀K:List af,(K.flatMap λx=>L.map λy=>[x,y]).length=K.length*L.length
 | []=>by simp
 | z::K=>by rw[abz,aao,zux L K,ab3,aap,acz];omega
section
variable {w L:List af} {i j:Nat} {x y:af}
def zFG(a:w.length≠0):(qZ w L)[0]?=some []:=by simp[qZ,a]
def zNv(a:2<=w.length)(h:L[i]?=some x):(qZ w L)[i+1]?=some [x]:=by have hi:=(aaa.1 h).1;rw[qZ,if_neg an,aba,if_neg an,aai (by simpa using hi),abA,h];rfl
def zNw(b:3<=w.length)(h:L[i]?=some x)(a:L[j]?=some y):(qZ w L)[L.length+1+(i*L.length+j)]?=some [x,y]:=by rw[qZ,if_neg an,show L.length+1+(i*L.length+j)=(L.length+(i*L.length+j))+1 by omega,aba,if_neg an,abp ir,ab3,if_neg an,Nat.add_sub_cancel_left];exact zuw h a
def zEM:(qZ w L).length=if w.length=0 then 0 else if w.length=1 then 1 else if w.length=2 then L.length+1 else L.length+1+L.length*L.length:=by
 unfold qZ;split
 .rfl
 split
 .rfl
 split
 .simp
 .simp only[aap,aao,ab3,UT,zux];omega
def UU{c:List af}(h:c∈qZ w L):c.length<w.length:=by
 unfold qZ at h;split at h
 .cases h
 .split at h
  .simp at h;subst h;simp;omega
  .split at h
   .simp at h
    rcases h with rfl|⟨a,_,rfl⟩
    .simp;omega
    .simp;omega
   .simp[UT] at h
    rcases h with rfl|⟨a,_,rfl⟩|⟨a,_,b,_,rfl⟩
    .simp;omega
    .simp;omega
    .simp;omega
def UW{c:List af}(h:c∈qZ w L):∀x∈c,x∈L:=by
 unfold qZ at h;split at h
 .cases h
 .split at h
  .simp at h;subst h;simp
  .split at h
   .simp at h
    rcases h with rfl|⟨a,d,rfl⟩<;>simp_all
   .simp[UT] at h
    rcases h with rfl|⟨a,d,rfl⟩|⟨a,d,b,e,rfl⟩<;>simp_all
end
def uU(hit:Nat->List af->Bool):List (List af)->Nat->Option (Nat×List af)
 | [],_=>none
 | c::l,k=>if hit k c=true then some (k,c) else uU hit l (k+1)
def zp7{hit:Nat->List af->Bool}:∀{l:List (List af)} {k:Nat},(∀j<l.length,∀c,l[j]?=some c->hit (k+j) c=false)->uU hit l k=none
 | [],_,_=>rfl
 | c::l,k,h=>by
  rw[uU,if_neg (by rw[show k=k+0 by rfl,h 0 ir c rfl];simp)]
  exact zp7 λj b c a=>by rw[show k+1+j=k+(j+1) by omega];exact h (j+1) (by simp;omega) c (by simpa using a)
def zoT{hit:Nat->List af->Bool}{c:List af}:∀{l:List (List af)} {k j:Nat},l[j]?=some c->hit (k+j) c=true->(∀i<j,∀c,l[i]?=some c->hit (k+i) c=false)->uU hit l k=some (k+j,c)
 | [],_,_,h,_,_=>by simp at h
 | d::l,k,0,h,a,_=>by
  simp only[abk,abC.injEq] at h;subst h;rw[abU] at a
  rw[uU,if_pos a];rfl
 | d::l,k,j+1,h,a,b=>by
  rw[uU,if_neg (by rw[show k=k+0 by rfl,b 0 an d rfl];simp)];rw[show k+(j+1)=k+1+j by omega] at a |-
  exact zoT (by simpa using h) a λi hi c e=>by rw[show k+1+i=k+(i+1) by omega];exact b (i+1) an c (by simpa using e)
open Go Go.RowKit
variable {G:aL}
def zCr[fJ G]{H:ae}(fM:iq H){id i1 i2:Nat}{w L:List af}{tk:Tk}(CX:w.length<=1000)(hL:L.length<=1000)
  (f:H[i1]?=some (some (.cells [.vs (IL w) .no]))) (M:H[i2]?=some (some (.cells [.vs (IL L) .no]))) (bM:id<H.length) {hit:Nat->List af->Bool} {H':Nat->List af->ae}
  (x_:∀k c,(qZ w L)[k]?=some c->hit k c=false->∀X:ae,(∀n,X.map (aaU (ay.cl n))=X)->YS G id [.int .i64 k,.vs (IL c) .full] (H++X) true (H++X))
  (iJ:∀k c,(qZ w L)[k]?=some c->hit k c=true->∀X:ae,(∀n,X.map (aaU (ay.cl n))=X)->YS G id [.int .i64 k,.vs (IL c) .full] (H++X) false (H' k c++X))
  (oq:∀k c,(qZ w L)[k]?=some c->hit k c=true->ak H.length (H' k c)=H' k c/\(H' k c).length=H.length) :
  SF G 328 [.yld id,.ptr i1 0,.ptr i2 0] H (.bc []) (match uU hit (qZ w L) 0 with|some p=>H' p.1 p.2|none=>H):=by
 refine kr fJ.afd (aaf rfl) ?_;have Fe:i1<H.length:=(aaa.1 f).1;have N:i2<H.length:=(aaa.1 M).1;have B:=fM.self;have rZ:=fM.back;have g1:=(aaa.1 f).2;have g2:=(aaa.1 M).2
 have e1:∀X:ae,(H++X)[i1]?=some (some (.cells [.vs (IL w) .no])):=λX=>by rw[aai Fe];exact f
 have e2:∀X:ae,(H++X)[i2]?=some (some (.cells [.vs (IL L) .no])):=λX=>by rw[aai N];exact M
 have HU:∀(X:ae) h,(H++X)[i1]'h=some (.cells [.vs (IL w) .no]):=λX h=>(aaa.1 (e1 X)).2;have CM:∀(X:ae) h,(H++X)[i2]'h=some (.cells [.vs (IL L) .no]):=λX h=>(aaa.1 (e2 X)).2;have k0:∀(r:ae) x,(H++r).set H.length x=H++r.set 0 x:=λr x=>tY rfl x;have kk:∀r:ae,(H++r)[H.length]?=r[0]?:=λr=>oW rfl;have ha:∀(r:ae) x,(H++r).set (H.length+1) x=H++r.set 1 x:=λr x=>y6 rfl 1 x;have hb:∀r:ae,(H++r)[H.length+1]?=r[1]?:=λr=>rW rfl 1
 have O:=zEM (w:=w) (L:=L);have me:∀x:af,(∀y∈x.cs,y.pure=true)=True:=λx=>eq_true (λy d=>by simp only[af.cs,aaG,aaZ,or_false] at d;rcases d with rfl|rfl|rfl|rfl<;>rfl);have fD:∀x:af,x.cs.length=4:=λx=>rfl;have lL:∀x:af,x.cs.take 4=x.cs:=λx=>rfl;have nx:∀x:af,x.cs.map V.jA=x.cs:=λx=>rfl
 have kx:∀(x:af) n,aZ n x.cs=x.cs:=λx n=>by simp[af.cs,aZ,V.cl]
 obtain⟨C,P⟩:=bb (qZ w L);rw[<-P] at O |-
 have jT:∀n,C.length<=n->(∀j<n,∀c,C[j]?=some c->hit j c=false)->uU hit C 0=none:=λn g l=>zp7 λj o c a=>by rw[abm];exact l j an c a
 have uV:∀k c,C[k]?=some c->hit k c=true->(∀j<k,∀c,C[j]?=some c->hit j c=false)->uU hit C 0=some (k,c):=λk c a b l=>by
  have:=zoT (hit:=hit) (k:=0) a (by rw[abm];exact b) λi hi c a=>by rw[abm];exact l i hi c a
  rwa[abm] at this
 rw[<-P] at x_ iJ oq
 by_cases t:w.length=0
 .have g:uU hit C 0=none:=jT 0 (by rw[O,if_pos t];exact aaF _) λj o=>by omega
  have Q:((w.length:Int)==0)=true:=by simp[t]
  simp[f,t,g,B]
 have Q:((w.length:Int)==0)=false:=aG an
 have D:C[0]?=some []:=by rw[P];exact zFG t
 simp[f,Q]
 cases E:hit 0 [] with
 | true =>
  have:=iJ 0 [] D E [] (λn=>rfl);simp only[abw,IL,acf] at this;refine CQ this ?_
  have F:=uV 0 [] D E λj o=>by omega
  obtain⟨I,R⟩:=oq 0 [] D E
  simp[F,I]
 | false =>
 have:=x_ 0 [] D E [] (λn=>rfl);simp only[abw,IL,acf] at this;refine CQ this ?_
 by_cases w1:w.length=1
 .have g:uU hit C 0=none:=jT 1 (by rw[O,if_neg t,if_pos w1];exact aaF _) λj o c a=>by
   obtain rfl:j=0:=by omega
   rw[D] at a;cases a;exact E
  simp[f,w1,g,B]
 have he:((w.length:Int)==1)=false:=aG an
 have xu:2<=w.length:=an
 simp[f,M,he]
 have P1:∀j<1,∀c,C[j]?=some c->hit j c=false:=λj o c a=>by
  obtain rfl:j=0:=by omega
  rw[D] at a;cases a;exact E
 have qx:∀X:ae,(∀n,X.map (aaU (ay.cl n))=X)->ak H.length (H++X)=H:=λX _=>rZ X;obtain⟨u,v⟩:∃u:Nat->Nat,∀i,u i=i+1:=⟨_,λ_=>rfl⟩;have hk:u 0=1:=v 0;refine aO L.length (λi=>[(0,.yld id),(1,.ptr i1 0),(2,.ptr i2 0),(4,.int .i64 (u i:Nat)),(24,.vs (IL L) .no),(25,.int .i64 L.length),(26,.int .i64 i)]) (λ_=>H) (λi=>∀j<i+1,∀c,C[j]?=some c->hit j c=false) ?_ ?_
 .simp[av,B,bM,Fe,N,hk];simpa using P1
 intro i hi l
 by_cases z:i<L.length
 .obtain⟨x,S⟩:=bb (L[i])
  have hg:L[i]?=some x:=by rw[aah z,S]
  have T:=sC z;rw[<-S] at T
  have a:C[i+1]?=some [x]:=by rw[P];exact zNv xu hg
  have J:∀n,([some (ay.cells x.cs)]:ae).map (aaU (ay.cl n))=[some (ay.cells x.cs)]:=λn=>by simp[ay.cl,kx]
  have P0:∀n,([some (ay.cells x.cs)]:ae).map (aaU (ay.cl n))=[some (ay.cells x.cs)]:=J;simp(disch:=omega)[bC,T,fD,lL,kk,k0,me];have U:IL [x]=[x.cs]:=rfl
  cases b:hit (i+1) [x] with
  | true =>
   have d:=iJ (i+1) [x] a b _ J;rw[U,<-v i] at d;refine CQ d ?_;have F:=uV (i+1) [x] a b l;obtain⟨I,R⟩:=oq (i+1) [x] a b;rw[<-v i] at I R F
   simp[F,PQ I R]
  | false =>
   have d:=x_ (i+1) [x] a b _ J;rw[U,<-v i] at d;refine CQ d ?_
   have vp:∀j<i+1+1,∀c,C[j]?=some c->hit j c=false:=λj o c A=>by
    rcases aa_.1 o with h|rfl
    .exact l j h c A
    .rw[a] at A;cases A;exact b
   have a1:aC .i64 (u i:Int) 1=(u (i+1):Int):=by rw[v,v];exact bA an
   simp(disch:=omega)[z,bA,a1,av,rZ,bM,Fe,N,-aab];exact vp
 .have az:i=L.length:=an
  subst az;simp
  by_cases w2:w.length=2
  .have g:uU hit C 0=none:=jT (L.length+1) (by rw[O,if_neg t,if_neg w1,if_pos w2];exact aaF _) l;simp[f,w2,g,B]
  have hl:((w.length:Int)==2)=false:=aG an
  have ho:3<=w.length:=an
  have nn:L.length*L.length<=1000000:=acT (Nat.mul_le_mul hL hL) ah9;simp[f,M,hl];obtain⟨s,UX⟩:∃s:Nat->Nat,∀i,s i=L.length+1+i*L.length:=⟨_,λ_=>rfl⟩
  have hp:s 0=L.length+1:=by rw[UX];omega
  have hr:u L.length=L.length+1:=v _;refine aO L.length (λi=>[(0,.yld id),(2,.ptr i2 0),(4,.int .i64 (s i:Nat)),(42,.vs (IL L) .no),(43,.int .i64 L.length),(44,.int .i64 i)]) (λ_=>H) (λi=>∀j<s i,∀c,C[j]?=some c->hit j c=false) ?_ ?_
  .simp[av,B,bM,N,hp,hr];exact l
  intro i hi hQ;have wL:i*L.length<=L.length*L.length:=Nat.mul_le_mul_right _ hi
  by_cases z:i<L.length
  .obtain⟨x,S⟩:=bb (L[i])
   have hg:L[i]?=some x:=by rw[aah z,S]
   have T:=sC z;rw[<-S] at T
   have J:∀n,([some (ay.cells x.cs)]:ae).map (aaU (ay.cl n))=[some (ay.cells x.cs)]:=λn=>by simp[ay.cl,kx]
   have hs:ak (H.length+1) (H++[some (.cells x.cs)])=H++[some (.cells x.cs)]:=by have:=(fM.app J).self;simpa using this
   have nC:∀r:ae,ak (H.length+1) (H++some (.cells x.cs)::r)=H++[some (.cells x.cs)]:=λr=>by
    have:=(fM.app J).back r;simpa using this
   have hz:(i+1)*L.length=i*L.length+L.length:=acz _ _;have hA:∀r:ae,(H++r)[i2]?=some (some (.cells [.vs (IL L) .no])):=e2;simp(disch:=omega)[bC,T,fD,lL,kk,k0,e2];obtain⟨e,K⟩:∃e:Nat->Nat,∀j,e j=L.length+1+(i*L.length+j):=⟨_,λ_=>rfl⟩
   have ht:e 0=s i:=by rw[K,UX];omega
   have P7:e L.length=s (i+1):=by rw[K,UX];omega
   have hu:∀j,e (j+1)=e j+1:=λj=>by rw[K,K];omega
   have hv:∀j,j<=L.length->e j<=2000000:=λj o=>by rw[K];omega
   refine aO L.length (λj=>[(0,.yld id),(2,.ptr i2 0),(4,.int .i64 (e j:Nat)),(8,.ptr H.length 0),(42,.vs (IL L) .no),(43,.int .i64 L.length),(44,.int .i64 i),(48,.vs (IL L) .no),(49,.int .i64 L.length),(50,.int .i64 j)]) (λ_=>H++[some (.cells x.cs)]) (λj=>∀m<e j,∀c,C[m]?=some c->hit m c=false) ?_ ?_
   .simp[av,hs,show id<H.length+1 by omega,show i2<H.length+1 by omega,ht];exact hQ
   intro j o hR
   by_cases Ac:j<L.length
   .obtain⟨y,d⟩:=bb (L[j])
    have Mj:L[j]?=some y:=by rw[aah Ac,d]
    have Ag:=sC Ac;rw[<-d] at Ag
    have a:C[L.length+1+(i*L.length+j)]?=some [x,y]:=by rw[P];exact zNw ho hg Mj
    have W:∀n,([some (ay.cells x.cs),some (ay.cells y.cs)]:ae).map (aaU (ay.cl n))=[some (ay.cells x.cs),some (ay.cells y.cs)]:=λn=>by simp[ay.cl,kx]
    have U:IL [x,y]=[x.cs,y.cs]:=rfl;rw[<-K j] at a;have hw:=hv j an;have Y:=hu j;obtain⟨q,hq⟩:=bb (e j);rw[<-hq] at a hw Y
    have Jo:∀m<q,∀c,C[m]?=some c->hit m c=false:=by rw[hq];exact hR
    have a3:aC .i64 q 1=((q+1:Nat):Int):=bA an;simp only[<-hq];simp(disch:=omega)[bC,Ag,fD,lL,kk,hb,ha,me]
    cases b:hit q [x,y] with
    | true =>
     have Z:=iJ q [x,y] a b _ W;rw[U] at Z;refine CQ Z ?_;have F:=uV q [x,y] a b Jo;obtain⟨I,R⟩:=oq q [x,y] a b
     simp[F,PQ I R]
    | false =>
     have Z:=x_ q [x,y] a b _ W;rw[U] at Z;refine CQ Z ?_
     have vp:∀m<q+1,∀c,C[m]?=some c->hit m c=false:=λm hm c A=>by
      rcases aa_.1 hm with h|rfl
      .exact Jo m h c A
      .rw[a] at A;cases A;exact b
     simp(disch:=omega)[Ac,bA,a3,Y,av,nC,show id<H.length+1 by omega,show i2<H.length+1 by omega,-aab];exact vp
   .obtain rfl:j=L.length:=by omega
    rw[P7] at hR;simp(disch:=omega)[P7,z,bA,av,rZ,bM,N,-aab,-aa7];exact hR
  .have az:i=L.length:=an
   subst az;have g:uU hit C 0=none:=jT (s L.length) (by rw[UX,O,if_neg t,if_neg w1,if_neg w2];exact aaF _) hQ;simp[g,B]
def P9:bg:=.seq (.region 0 [⟨some 11,.mv (.t 26),none⟩]) (.region 0 [⟨some 12,.mv (.t 27),none⟩])
def P_:bg:=.block 1 (.seq (.seq (.region 0 [⟨some 28,.mv (.t 11),none⟩,⟨some 29,.load 1 false false (.t 5),none⟩,⟨some 30,.bin .geq (.t 28) (.t 29),none⟩]) (.cond (.t 30) (.exit 0) .skip)) (.seq (.keep [3,4,6,7,8,12])
 (.seq (.region 1 [⟨some 32,.load 1 false false (.t 3),none⟩,⟨some 33,.mv (.t 12),none⟩,⟨some 34,.load 1 false false (.t 4),none⟩,⟨some 35,.pcall 312 [.t 32,.t 33,.t 34],none⟩,⟨some 31,.mv (.t 35),none⟩,⟨some 36,.ext 0 (.t 31),none⟩,⟨some 37,.ext 1 (.t 31),none⟩,
  ⟨some 13,.alloc 0 (dP 0 none),none⟩,⟨none,.store 28 (.t 13) (.t 36),none⟩,⟨some 14,.mv (.t 37),none⟩]) (.seq (.keep [6,7,8,12,13]) (.seq (.region 0 [⟨some 38,.p9 0 (.t 13),none⟩,⟨some 39,.load 1 false false (.t 38),none⟩,⟨some 40,.bin .eql (.t 39) (.c (.int .i64 0)),none⟩])
   (.cond (.t 40) (.seq (.region 0 [⟨some 41,.mv (.t 12),none⟩,⟨none,.store 1 (.t 6) (.t 41),none⟩,⟨none,.store 1 (.t 7) (.c (.bool true)),none⟩,⟨none,.store 1 (.t 8) (.c (.int .i64 0)),none⟩]) .ret) .skip))))))
def Ml:List (Nat×V):=[(3,.ptr 0 0),(4,.ptr 1 0),(5,.ptr 2 0),(6,.ptr 3 0),(7,.ptr 4 0),(8,.ptr 5 0)]
def FH(w L:List af)(live:Nat)(tries:Int)(o:List af)(b:Bool)(st:AI):ae :=
 [some (.cells [.vs (IL w) .no]),some (.cells [.int .u32 live]),some (.cells [.int .i64 tries]),some (.cells [.vs (IL o) .full]),some (.cells [.bool b]),some (.cells [.int .i64 0]),some (.cells [.vs (IL w) .no]),some (.cells [.vs (IL L) .no]),some (.loop Ml [26,27] P9 P_ st)]
section
variable {w L o:List af} {live:Nat} {tries:Int} {b:Bool} {st:AI}
def UY:iq (FH w L live tries o b st):=by intro n a;simp only[FH,aap,ach] at a;simp[FH,Ml,ay.cl,aZ,V.cl,Tk.cl,show 0<n by omega,show 1<n by omega,show 2<n by omega,show 3<n by omega,show 4<n by omega,show 5<n by omega]
noncomputable def pU(w:List af)(live:Nat)(tries:Int)(k:Nat)(c:List af):Bool:=decide (tries<=k)||decide ((ey w c live).1=0)
def zwL[dT G][dy G][aE G][aD G][bQ G][dx G][cW G][aQ G][cY G][cZ G][bY G][cu G][bS G][au G][CB:dU G][cB G][aN G][bZ G][cQ G][eT G]
  (k:Nat) (c:List af) (p:w.length<=maxLen) (q:∀x∈w,x.k<4294967296) (s:live<4294967296) (t:c.length<=maxLen) (u:∀x∈c,x.k<4294967296) (X:ae) (v:∀n,X.map (aaU (ay.cl n))=X) :
  YS G 8 [.int .i64 k,.vs (IL c) .full] (FH w L live tries [] false .ready++X) (!pU w live tries k c)
   (if tries<=k then FH w L live tries [] false (.done (.exit 0))++X else if(ey w c live).1=0 then FH w L live tries c true (.done .ret)++X else FH w L live tries [] false .ready++X):=by
 have nF:∀o b st,(FH w L live tries o b st).length=9:=λo b st=>rfl
 obtain⟨a,H',z,rfl,rfl⟩:=zFq (R:=λa H'=>a=(!pU w live tries k c)/\H'=(if tries<=k then FH w L live tries [] false (.done (.exit 0))++X else if(ey w c live).1=0 then FH w L live tries c true (.done .ret)++X else FH w L live tries [] false .ready++X))
  (G:=G) (H:=FH w L live tries [] false .ready++X) (id:=8) (args:=[.int .i64 k,.vs (IL c) .full]) (e0:=Ml) (ps:=[26,27]) (as:=P9) (bo:=P_) rfl rfl (by
  have C:∀o b st d (r:ae),(FH w L live tries o b st++r).set 8 (some (.loop Ml [26,27] P9 P_ d))=FH w L live tries o b d++r:=λo b st d r=>rfl;have f:∀o b st (r:ae),(FH w L live tries o b st++r)[8]?=some (some (.loop Ml [26,27] P9 P_ st)):=λo b st r=>rfl;have D:∀o b st (r:ae),(FH w L live tries o b st++r)[0]?=some (some (.cells [.vs (IL w) .no])):=λo b st r=>rfl;have E:∀o b st (r:ae),(FH w L live tries o b st++r)[1]?=some (some (.cells [.int .u32 live])):=λo b st r=>rfl
  have F:∀o b st (r:ae),(FH w L live tries o b st++r)[2]?=some (some (.cells [.int .i64 tries])):=λo b st r=>rfl;have I:∀o b st (r:ae),(FH w L live tries o b st++r)[3]?=some (some (.cells [.vs (IL o) .full])):=λo b st r=>rfl;have J:∀o b st (r:ae),(FH w L live tries o b st++r)[4]?=some (some (.cells [.bool b])):=λo b st r=>rfl;have K:∀o b st (r:ae),(FH w L live tries o b st++r)[5]?=some (some (.cells [.int .i64 0])):=λo b st r=>rfl
  have M:∀o e b st (r:ae),(FH w L live tries o b st++r).set 3 (some (.cells [.vs (IL e) .full]))=FH w L live tries e b st++r:=λo e b st r=>rfl;have N:∀o b a st (r:ae),(FH w L live tries o b st++r).set 4 (some (.cells [.bool a]))=FH w L live tries o a st++r:=λo b a st r=>rfl;have O:∀o b st (r:ae),(FH w L live tries o b st++r).set 5 (some (.cells [.int .i64 0]))=FH w L live tries o b st++r:=λo b st r=>rfl
  have h:∀o b st (r:ae),ak (9+X.length) (FH w L live tries o b st++(X++r))=FH w L live tries o b st++X:=λo b st r=>by
   have:=((UY (w:=w) (L:=L) (live:=live) (tries:=tries) (o:=o) (b:=b) (st:=st)).app v).back r;rw[aaq,aao,nF] at this;exact this
  have i:∀o b st,ak (9+X.length) (FH w L live tries o b st++X)=FH w L live tries o b st++X:=λo b st=>by
   have:=h o b st [];simpa using this
  have kk:∀o b st (r:ae),(FH w L live tries o b st++(X++r))[9+X.length]?=r[0]?:=λo b st r=>by
   rw[<-aaq];exact oW (by simp[nF])
  have P:∀o b st (r:ae) y,(FH w L live tries o b st++(X++r)).set (9+X.length) y=FH w L live tries o b st++(X++r.set 0 y):=λo b st r y=>by
   rw[<-aaq,tY (by simp[nF]),aaq]
  have hd:=zup (G:=G) w c live p t q u s;simp only[FL] at hd;obtain⟨A,l⟩:=bb (dP 0 none)
  have Q:A.length=28:=by rw[l];rfl
  obtain⟨g,B,S,T,kB,U,W⟩:∃(g:Int) (B:List V),(ey w c live).1=g/\B=dP (ey w c live).1 (ey w c live).2/\(∀n,aZ n B=B)/\B.length=28/\B.take 1=[.int .i64 g] :=
   ⟨_,_,rfl,rfl,λn=>Ux _ _ n,zwF w c live,zyN _ _⟩
  have tB:B.take 28=B:=aaj an;have Y:A.drop 28=[]:=aan an;rw[<-T] at hd;simp only[pU,S];simp[P9,Ml,sI];refine⟨_,_,_,_,f _ _ _ _,?_⟩;rw[C];simp[P_,nF,F];have Z:∀o e b st,(FH w L live tries o b st).set 3 (some (.cells [.vs (IL e) .full]))=FH w L live tries e b st:=λo e b st=>rfl;have ha:∀o b a st,(FH w L live tries o b st).set 4 (some (.cells [.bool a]))=FH w L live tries o a st:=λo b a st=>rfl
  have hb:∀o b st,(FH w L live tries o b st).set 5 (some (.cells [.int .i64 0]))=FH w L live tries o b st:=λo b st=>rfl
  by_cases m:tries<=(k:Int)
  .simp[m,f];exact⟨_,_,_,_,⟨rfl,rfl,rfl,rfl⟩,i _ _ _⟩
  simp[m,nF,D,E];refine aw hd ?_;simp[nF,<-l,Q,U,Y,P,W]
  by_cases j:g=0
  .simp[j,nF,I,J,K,M,N,O,f];exact⟨_,_,_,_,⟨rfl,rfl,rfl,rfl⟩,h _ _ _ _⟩
  .simp[j,aG j,nF,f]
   exact⟨_,_,_,_,⟨rfl,rfl,rfl,rfl⟩,h _ _ _ _⟩)
 exact z
end
def zCs{L:List Nd}(h:Inv L){x:Int}{c:Nat}(e:dw L x=some c):c<4294967296:=by
 unfold dw at e;split at e
 .cases b:L[x.toNat]? with
  | none=>rw[b] at e;cases e
  | some a =>
   rw[b] at e;simp only[Option.bind_some,qI] at e;split at e
   .exact y0 e (h.wf a (aaA b)).1
   .cases e
 .cases e
def zyT{w:List af}(b:∀x∈w,x.k<4294967296)(j:a_ w=true):∀n∈la w++Af w,n<4294967296:=by
 have hi:Inv (aK [] w).L:=(Cb Inv.nil w b).ext.inv;intro n a;rw[aaE] at a
 rcases a with a|a
 .simp only[la,abn,List.mem_filter] at a;obtain⟨x,⟨e,_⟩,rfl⟩:=a;exact b x e
 .simp only[Af,aaE,Option.mem_toList] at a
  have c:∀v,dq v (aK [] w).L ((aK [] w).p.getD 0 0)=some n->n<4294967296:=λv h=>by
   have f:0<=(aK [] w).p.getD 0 0:=by
    unfold dq at h;split at h
    .rename_i d;simp only[cE,decide_eq_true_eq] at d;exact d.1
    .cases h
   obtain⟨i,g⟩:=aa1 f;rw[g] at h;exact zsZ hi h
  rcases a with h|h|h
  .exact zCs hi h
  .exact c _ h
  .exact c _ h
noncomputable def fH(w:List af):List af:=Ha w (la w++Af w)
def zNx{l:List af}{x:af}(a:∀y∈l,y.k<4294967296)(b:x.k<4294967296):∀y∈qY l x,y.k<4294967296:=by
 unfold qY;split
 .exact a
 .split
  .intro y c
   rcases aaE.1 c with h|h
   .exact a y h
   .rw[aaY.1 h];exact b
  .exact a
def UZ:∀{xs l:List af},(∀y∈l,y.k<4294967296)->(∀y∈xs,y.k<4294967296)->∀y∈fY l xs,y.k<4294967296
 | [],_,a,_=>a
 | x::xs,l,a,b=>by
  show ∀y∈fY (qY l x) xs,y.k<4294967296;exact UZ (zNx a (b x ir)) λy c=>b y (by simp[c])
def zCt{w:List af}{b:List Nat}(c:∀x∈w,x.k<4294967296)(d:∀n∈b,n<4294967296):∀y∈Ha w b,y.k<4294967296:=by
 refine UZ (UZ (UZ ir c) ?_) ?_
 .intro y a;simp only[aaG,aaZ,or_false] at a
  rcases a with rfl|rfl<;>decide
 .intro y a;simp only[ac5,nQ,abn] at a;obtain⟨n,e,o,_,rfl⟩:=a;exact d n e
def zxH(w:List af)(b:List Nat):(Ha w b).length<=w.length+2+6*b.length:=by
 unfold Ha;have c:=Dx w [];have d:=Dx [⟨7,0,0,0⟩,⟨135,0,0,0⟩] (fY [] w);have f:=Dx (b.flatMap nQ) (fY (fY [] w) [⟨7,0,0,0⟩,⟨135,0,0,0⟩])
 have g:(b.flatMap nQ).length=6*b.length:=by
  generalize b=l
  induction l with
  | nil=>rfl
  | cons a l e=>rw[abz,aao,e,aap];simp[nQ,Cp];omega
 simp at c d;omega
def zEN(w:List af):(Af w).length<=3:=by
 have a:∀o:Option Nat,o.toList.length<=1:=λo=>by cases o<;>simp
 have b:=a (dw (aK [] w).L ((aK [] w).p.getD 0 0));have c:=a (dq (aR 34) (aK [] w).L ((aK [] w).p.getD 0 0));have d:=a (dq (4294967295::aR 33) (aK [] w).L ((aK [] w).p.getD 0 0));rw[Af,aao,aao];omega
def zr4{w:List af}(a:∀x∈w,x.k<4294967296)(b:a_ w=true):∀y∈fH w,y.k<4294967296:=zCt a (zyT a b)
def zwM{w:List af}(a:a_ w=true):(fH w).length<=300:=by
 have c:w.length<=32:=by simp only[a_,aae,decide_eq_true_eq] at a;exact a.1
 have b:=zxH w (la w++Af w);have d:=UM w;have e:=zEN w;rw[aao] at b;unfold fH;omega
def zG9[fJ G](H:ae)(w L:List af):bE G (.F 329 [.vs (IL w) .no,.vs (IL L) .no] H (.fn 328 [.ptr H.length 0,.ptr (H.length+1) 0]) (H++[some (.cells [.vs (IL w) .no]),some (.cells [.vs (IL L) .no])])):=by refine fg fJ.afe (aaf rfl) ?_;simp
noncomputable def ig(w:List af)(live:Nat)(tries:Int):Option (List af) :=
 match uU (pU w live tries) (qZ w (fH w)) 0 with
 | some p=>if tries<=p.1 then none else some p.2
 | none=>none
def zr5{hit:Nat->List af->Bool}{p:Nat×List af}:∀{l:List (List af)} {k:Nat},uU hit l k=some p->k<=p.1/\l[p.1-k]?=some p.2/\hit p.1 p.2=true
 | [],_,h=>by cases h
 | c::l,k,h=>by
  rw[uU] at h;split at h
  .rename_i a;cases h;exact⟨aaF _,ir,a⟩
  .obtain⟨e,b,d⟩:=zr5 h;refine⟨an,?_,d⟩;rw[show p.1-k=(p.1-(k+1))+1 by omega];exact b
def zHa[dT G][dy G][aE G][aD G][bQ G][dx G][cW G][aQ G][cY G][cZ G][bY G][cu G][bS G][au G][v:dU G][cB G][aN G][de G][bZ G][cQ G][eT G][ga G][fI G][fJ G][iQ G]
  (w:List af) (live:Nat) (tries:Int) (q:w.length<=maxLen) (j:∀x∈w,x.k<4294967296) (i:a_ w=true) (t:live<4294967296) :
  FP G 333 [FL w,.int .u32 live,.int .i64 tries] (.bc [FL ((ig w live tries).getD []),.bool (ig w live tries).isSome,.int .i64 0]):=by
 haveI:je G:=v.toje
 refine bw iQ.aff (aaf rfl) ?_;have m:=zz7 (G:=G) w q j i (zyT j i);have g:=zr4 j i;have y:=zwM i
 have z:w.length<=32:=by simp only[a_,aae,decide_eq_true_eq] at i;exact i.1
 have a:ig w live tries=ig w live tries:=rfl
 conv at a=>rhs;unfold ig
 change FP G 330 [FL w] (.bc [FL (fH w),.int .i64 0]) at m;generalize fH w=L at m g y a;simp only[FL] at m;simp[FL];refine aw m ?_;simp;refine vh (zG9 _ w L) ir ?_;simp
 have e:=zCr (G:=G) (H:=FH w L live tries [] false .ready) UY (id:=8) (i1:=6) (i2:=7) (w:=w) (L:=L) (tk:=.no) an an rfl rfl (show 8<9 by decide) (hit:=pU w live tries)
  (H':=λk c=>if tries<=(k:Int) then FH w L live tries [] false (.done (.exit 0)) else FH w L live tries c true (.done .ret))
  (λk c n f X r=>by
   have l:=aaA n;have:=zwL (G:=G) (L:=L) (tries:=tries) k c q j t (by have:=UU l;simp only[maxLen];omega) (λx s=>g x (UW l x s)) X r;rw[f] at this;simp only[pU,abB,decide_eq_false_iff_not] at f;rw[if_neg f.1,if_neg f.2] at this
   exact this)
  (λk c n f X r=>by
   have l:=aaA n;have:=zwL (G:=G) (L:=L) (tries:=tries) k c q j t (by have:=UU l;simp only[maxLen];omega) (λx s=>g x (UW l x s)) X r;rw[f] at this;simp only[pU,acj,decide_eq_true_eq] at f
   by_cases d:tries<=(k:Int)
   .rw[if_pos d] at this |-;exact this
   .rw[if_neg d,if_pos (f.resolve_left d)] at this;rw[if_neg d]
    exact this)
  (λk c n f=>by
   by_cases d:tries<=(k:Int)
   .rw[if_pos d];exact⟨(UY (w:=w) (L:=L) (live:=live) (tries:=tries) (o:=[]) (b:=false) (st:=.done (.exit 0))).self,rfl⟩
   .rw[if_neg d];exact⟨(UY (w:=w) (L:=L) (live:=live) (tries:=tries) (o:=c) (b:=true) (st:=.done .ret)).self,rfl⟩)
 have h:∀o b st,ak 8 (FH w L live tries o b st)=[some (.cells [.vs (IL w) .no]),some (.cells [.int .u32 live]),some (.cells [.int .i64 tries]),some (.cells [.vs (IL o) .full]),some (.cells [.bool b]),some (.cells [.int .i64 0]),some (.cells [.vs (IL w) .no]),some (.cells [.vs (IL L) .no])]:=λo b st=>by
  simp[ak,FH,ay.cl,aZ,V.cl,Tk.cl]
 cases u:uU (pU w live tries) (qZ w L) 0 with
 | none =>
  rw[u] at e a;simp only[] at e a;refine PX e rfl (.inl ⟨rfl,rfl⟩) ?_
  simp[h,a]
 | some p =>
  rw[u] at e a;simp only[] at e a
  by_cases d:tries<=(p.1:Int)
  .rw[if_pos d] at e a;refine PX (x:=.exit 0) e rfl (.inr ⟨rfl,ir⟩) ?_;simp[h,a]
  .rw[if_neg d] at e a;refine PX (x:=.ret) e rfl (.inr ⟨rfl,ir⟩) ?_;simp[h,a]
open Go Go.RowKit
variable {G:aL}
section
variable {w L o:List af} {q:Int} {b:Bool} {st:AI}
end
def Da0:Da:=⟨0,0,0,aR 6⟩
def zCu:Da0.ok:=⟨ah9,ah9,ah9,by simp[Da0],λw a=>by
 simp only[Da0,aR,ab4] at a
 omega⟩
open Go Go.RowKit
variable {G:aL}
section
variable {w:List af} {live:Nat} {tries:Int}
def zIF{k:Nat}{c:List af}(a:(qZ w (fH w))[k]?=some c)(e:(k:Int)<tries)(b:(ey w c live).1=0)
  (h:∀j<k,∀c,(qZ w (fH w))[j]?=some c->(ey w c live).1≠0):ig w live tries=some c:=by
 have d:=zoT (hit:=pU w live tries) (k:=0) a (by simp[pU,b]) (λi hi c a=>by
  have:=h i hi c a;simp only[pU,abm,abB,decide_eq_false_iff_not]
  exact⟨an,this⟩)
 unfold ig;rw[d,abm];simp only[];rw[if_neg an]
def zoW{hit:Nat->List af->Bool}{p:Nat×List af}:∀{l:List (List af)} {k:Nat},uU hit l k=some p->∀i,k+i<p.1->∀c,l[i]?=some c->hit (k+i) c=false
 | [],_,h=>by cases h
 | d::l,k,h=>by
  rw[uU] at h;split at h
  .cases h;intro i hi;omega
  .rename_i b;intro i hi c a
   cases i with
   | zero =>
    simp only[abk,abC.injEq] at a;subst a
    simpa using b
   | succ i =>
    rw[show k+(i+1)=k+1+i by omega];exact zoW h i an c (by simpa using a)
def zEO{c:List af}(h:ig w live tries=some c):∃k:Nat,(k:Int)<tries/\(qZ w (fH w))[k]?=some c/\(ey w c live).1=0/\∀j<k,∀c,(qZ w (fH w))[j]?=some c->(ey w c live).1≠0:=by
 unfold ig at h;split at h
 .rename_i p a;obtain⟨_,b,d⟩:=zr5 a;have e:=zoW a;rw[Nat.sub_zero] at b;split at h
  .cases h
  .rename_i f;cases h;simp only[pU,acj,decide_eq_true_eq] at d;refine⟨p.1,an,b,d.resolve_left f,λj i c g=>?_⟩;have:=e j an c g;simp only[pU,abm,abB,decide_eq_false_iff_not] at this;exact this.2
 .cases h
end
def zHb{l:List af}{x:af}(a:∀y∈l,a_ [y]=true):∀y∈qY l x,a_ [y]=true:=by
 unfold qY;split
 .exact a
 .split
  .rename_i b;intro y c
   rcases aaE.1 c with h|h
   .exact a y h
   .rw[aaY.1 h];exact b
  .exact a
def U1:∀{xs l:List af},(∀y∈l,a_ [y]=true)->∀y∈fY l xs,a_ [y]=true
 | [],_,a=>a
 | x::xs,l,a=>by
  show ∀y∈fY (qY l x) xs,a_ [y]=true;exact U1 (zHb a)
def zxI{w:List af}{a:List Nat}:∀y∈Ha w a,mX y=true:=by intro y b;have:=U1 (U1 (U1 (l:=[]) ir)) y b;simpa[a_] using this
def zEP{w L c:List af}(b:∀y∈L,mX y=true)(a:c∈qZ w L)(f:w.length<=32):a_ c=true:=by have g:=UU a;have d:=UW a;simp only[a_,aae,decide_eq_true_eq,abe];exact⟨an,λx e=>b x (d x e)⟩
open Go Go.RowKit
variable {G:aL}
def zEQ{v w:List af}{live:Nat}(a:a_ v=true)(b:a_ w=true):decide ((ey v w live).1=0)=wy (aK [] v).p (aK (aK [] v).L w).p (aK [] v).st (aK (aK [] v).L w).st live:=by
 rcases mj (live:=live) a b with⟨e,h⟩|⟨r,e,_,_,h⟩|⟨e,_,h⟩
 .rw[e,h];rfl
 .rw[e,h];rfl
 .rw[e,h];rfl
def sA(a:Nat):St:=⟨a,0,aR 16⟩
def zNy{a:Nat}(h:a<4294967296):(sA a).ok:=⟨h,show(0:Nat)<4294967296 by decide,by simp[sA],λw b=>by
 simp only[sA,aR,ab4] at b
 omega⟩
def Prd(f:List af)(i:Nat):Prop:=∃j x o,f[j]?=some x/\o∈aY x/\j+1+o=i
def qK(f:List af):Prop:=∀i,0<i->i<f.length->Prd f i
def Qa(f:List af)(m:List Bool):Prop:=∀i,m[i]?=some true->0<i->∃j x o,f[j]?=some x/\m[j]?=some true/\o∈aY x/\j+1+o=i
def zyU:∀{f:List af} {m:List Bool} {j:Nat} {x:af} {o:Nat},lP f m->f[j]?=some x->m[j]?=some true->o∈aY x->m[j+1+o]?=some true
 | [],_,_,_,_,_,h,_,_=>by simp at h
 | _::_,[],_,_,_,h,_,_,_=>by cases h
 | y::f,b::m,0,x,o,h,a,c,d=>by
  simp only[abk,abC.injEq] at a c;subst a;rw[show 0+1+o=o+1 by omega,aba]
  exact h.1 c o d
 | y::f,b::m,j+1,x,o,h,a,c,d=>by
  rw[show j+1+1+o=(j+1+o)+1 by omega,aba];exact zyU h.2 (by simpa using a) (by simpa using c) d
def zHc{f:List af}{m:List Bool}(c:lP f m)(d:m[0]?=some true)(g:qK f):∀b∈m,b=true:=by
 have h:=G_ c
 have a:∀n i,i<=n->i<f.length->m[i]?=some true:=λn=>by
  induction n with
  | zero =>
   intro i hi e
   obtain rfl:i=0:=by omega
   exact d
  | succ n k =>
   intro i hi e
   by_cases l:i=0
   .subst l;exact d
   .obtain⟨j,x,o,p,q,r⟩:=g i an e;rw[<-r];exact zyU c p (k j an an) q
 intro b s;obtain⟨i,hi⟩:=List.getElem?_of_mem s;have:=a i i (aaF _) (by rw[h];exact(aaa.1 hi).1);rw[hi] at this;cases this;rfl
def zCv{f:List af}{m:List Bool}(a:du f=true)(b:lP f m)(c:m[0]?=some true)(d:qK f):dO f m=f:=by refine zyS (G_ b) (zHc b c d) ?_;simp only[du,aae] at a;exact a.1.2
def zqR(m:List Bool)(i o:Nat):bP m (i+o)=bP m i+bP (m.drop i) o:=by simp only[bP];rw[List.take_add,ac0]
def zER{m:List Bool}{i:Nat}(h:m[i]?=some true):bP m (i+1)=bP m i+1:=by rw[zqR];have a:=(aaa.1 h);obtain⟨b,c⟩:=a;have:=aaJ b;rw[c] at this;rw[this];simp[bP]
def zqS:∀(m:List Bool) (p:Nat),p<m.countP id->∃i,m[i]?=some true/\bP m i=p
 | [],p,h=>by simp at h
 | true::m,0,_=>⟨0,rfl,JS _⟩
 | true::m,p+1,h=>by
  obtain⟨i,a,b⟩:=zqS m p (by simpa using h)
  exact⟨i+1,by simpa using a,by rw[zoR,b];simp;omega⟩
 | false::m,p,h=>by
  obtain⟨i,a,b⟩:=zqS m p (by simpa using h);exact⟨i+1,by simpa using a,by rw[zoR,b];simp⟩
def zIG{f:List af}{m:List Bool}{i:Nat}{x:af}(d:f.length=m.length)(e:f[i]?=some x)(g:m[i]?=some true):(dO f m)[bP m i]?=some (kS (m.drop (i+1)) x):=by
 have a:=UL f m i d;obtain⟨h,j⟩:=aaa.1 e;obtain⟨k,l⟩:=aaa.1 g;have b:=aaJ h;have c:=aaJ k;rw[j] at b;rw[l] at c;rw[b,c,dO] at a
 have n:((dO f m).drop (bP m i))[0]?=some (kS (m.drop (i+1)) x):=by rw[a];rfl
 rwa[abc,abU] at n
def zES(m:List Bool){x:af}{o:Nat}(h:o∈aY x):bP m o∈aY (kS m x):=by
 unfold aY at h |-;rw[JT];split at h
 .cases h
 rename_i c;rw[if_neg c];split at h
 .rename_i a;rw[if_pos a];simp only[aaY] at h;subst h;simp[kS,a]
 .rename_i a;rw[if_neg a];split at h
  .rename_i b;rw[if_pos b];simp only[aaG,aaZ,or_false] at h
   have d:kS m x={ x with jt:=(bP m x.jt.toNat:Nat),jf:=(bP m x.jf.toNat:Nat) }:=by rw[kS,if_neg a,if_pos b]
   rw[d]
   rcases h with rfl|rfl<;>simp
  .rename_i b;rw[if_neg b];simp only[aaY] at h |-;subst h;exact JS _
def zET{f:List af}{m:List Bool}(e:lP f m)(g:Qa f m):qK (dO f m):=by
 have a:=G_ e;intro p r b;rw[JU f m a] at b;obtain⟨i,k,c⟩:=zqS m p b
 have hi:0<i:=by
  rcases Nat.eq_zero_or_pos i with rfl|h
  .rw[JS] at c;omega
  .exact h
 obtain⟨j,x,o,l,d,n,q⟩:=g i k hi;refine⟨bP m j,_,_,zIG a l d,zES (m.drop (j+1)) n,?_⟩;rw[<-c,<-q,zqR,zER d]
def wD(a e b i:Nat){x:af}{o:Nat}(h:o∈aY x):ee a e b i o∈aY (ef a e b i x)\/o=0/\0∈aY (ef a e b i x):=by
 unfold aY at h |-;rw[Mf];split at h
 .cases h
 rename_i f;rw[if_neg f];split at h
 .rename_i c;rw[if_pos c];simp only[aaY] at h;subst h;simp[ef,c]
 .rename_i c;rw[if_neg c];split at h
  .rename_i d;rw[if_pos d];left;simp only[aaG,aaZ,or_false] at h
   have g:ef a e b i x={ x with jt:=(ee a e b i x.jt.toNat:Nat),jf:=(ee a e b i x.jf.toNat:Nat) }:=by rw[ef,if_neg c,if_pos d]
   rw[g]
   rcases h with rfl|rfl<;>simp
  .rename_i d;rw[if_neg d];simp only[aaY] at h |-;exact .inr ⟨h,trivial⟩
def zEU{f w:List af}{a n:Nat}(M:du f=true)(u:th f a n=true)(N:0<n)(C:a+n<=f.length)(D:a_ w=true)(E:w.length<=n)(v:qK f):qK (eZ f a n w):=by
 have F:=UK (w:=w) C
 have e:∀j x,j<a->f[j]?=some x->(eZ f a n w)[j]?=some (ef a (a+n) (n-w.length) j x):=λj x b c=>by
  have:=congrArg (λl=>l[0]?) (zp5 (w:=w) (n:=n) b c);simpa[abc] using this
 have G:∀j x,a+n<=j->f[j]?=some x->(eZ f a n w)[j-(n-w.length)]?=some x:=λj x b c=>by
  have:=congrArg (λl=>l[0]?) (zp6 (f:=f) (w:=w) (a:=a) E b);simp only[abc,abU] at this;rw[this];exact c
 have k:∀j,j<w.length->(eZ f a n w)[a+j]?=w[j]?:=λj b=>by
  have:=congrArg (λl=>l[j]?) (zs6 f w a n);simp only[abc] at this;rw[this,aai b]
 have H:∀x∈w,0∈aY x:=λx c=>by
  obtain⟨m,p,q,r⟩:=P6 (JQ D x c);simp[aY,fW,m,p,q,r]
 have ahead:∀j x o,j<a->f[j]?=some x->o∈aY x->j+1+o<=a->Prd (eZ f a n w) (j+1+o):=λj x o b c I J=>by
  refine⟨j,_,o,e j x b c,?_,rfl⟩
  have s:ee a (a+n) (n-w.length) j o=o:=by unfold ee;rw[if_neg an]
  rcases wD a (a+n) (n-w.length) j I with h|⟨h,y⟩
  .rw[s] at h;exact h
  .rw[h];exact y
 intro i hi K;rw[F] at K
 by_cases O:i<=a
 .obtain⟨j,x,o,g,d,z⟩:=v i hi an;rw[<-z];exact ahead j x o an g d an
 by_cases P:i<=a+w.length
 .have t:i-a-1<w.length:=an
  have A:=k (i-a-1) t;rw[aah t] at A;exact⟨a+(i-a-1),_,0,A,H _ (aaD t),an⟩
 .obtain⟨j,x,o,g,d,z⟩:=v (i+(n-w.length)) an an
  by_cases B:j<a
  .refine⟨j,_,o-(n-w.length),e j x B g,?_,an⟩
   have s:ee a (a+n) (n-w.length) j o=o-(n-w.length):=by unfold ee;rw[if_pos ⟨B,an⟩]
   rcases wD a (a+n) (n-w.length) j d with h|⟨h,y⟩
   .rw[s] at h;exact h
   .omega
  by_cases Q:j<a+n
  .exfalso
   have L:x∈(f.drop a).take n:=by refine aaA (i:=j-a) ?_;rw[abJ,if_pos an,abc,show a+(j-a)=j by omega];exact g
   simp only[th,aae] at u;obtain⟨m,p,q,r⟩:=P6 (JQ u.1 x L)
   have:aY x=[0]:=by simp[aY,fW,m,p,q,r]
   rw[this] at d;simp only[aaY] at d;omega
  .exact⟨j-(n-w.length),x,o,G j x an g,d,an⟩
def zCw{v w:List af}{live:Nat}(c:∀x∈v,x.k<4294967296)(d:∀x∈w,x.k<4294967296)(e:a_ v=true)(f:a_ w=true)
  (h:wy (aK [] v).p (aK (aK [] v).L w).p (aK [] v).st (aK (aK [] v).L w).st live=true):kp v v.length=kp w w.length:=by
 have b:=(zoP.1 h).2;have a:(sA 0).ok:=zNy ah9;have g:=Cb Inv.nil v c;have i:=(Uo Inv.nil a zCu c e);have j:=Uo g.ext.inv a zCu d f;have l:=i.num;have m:=j.num;rw[<-l,<-m,b]
def zjQ{w:List af}:kp w w.length=0↔∀x∈w,x.op≠60:=by rw[kp,abd,List.countP_eq_zero];simp
def zCx:∀a b:List UInt8,Op.bytesLess a b=false->a≠b->Op.bytesLess b a=true
 | [],[],_,h=>absurd rfl h
 | [],_::_,h,_=>by simp[Op.bytesLess] at h
 | _::_,[],_,_=>by simp[Op.bytesLess]
 | x::a,y::b,h,d=>by
  simp only[Op.bytesLess,abB,acE,decide_eq_false_iff_not,beq_eq_false_iff_ne] at h;simp only[Op.bytesLess,acj,aae,decide_eq_true_eq,beq_iff_eq]
  by_cases e:x=y
  .subst e;exact .inr ⟨rfl,zCx a b (h.2.resolve_left (λh=>h rfl)) (λe=>d (by rw[e]))⟩
  .refine .inl ?_;have c:=h.1;rw[UInt8.not_lt] at c;exact UInt8.lt_of_le_of_ne c (λe'=>e e'.symm)
def zwN:∀a b c:List UInt8,Op.bytesLess a b=true->Op.bytesLess b c=true->Op.bytesLess a c=true
 | _,[],_,h,_=>by cases ‹List UInt8›<;>simp[Op.bytesLess] at h
 | _,_::_,[],_,h=>by simp[Op.bytesLess] at h
 | [],_::_,_::_,_,_=>by simp[Op.bytesLess]
 | x::a,y::b,z::c,e,d=>by
  simp only[Op.bytesLess,acj,aae,decide_eq_true_eq,beq_iff_eq] at e d |-
  rcases e with e|⟨rfl,e⟩
  .rcases d with d|⟨rfl,d⟩
   .exact .inl (UInt8.lt_trans e d)
   .exact .inl e
  .rcases d with d|⟨rfl,d⟩
   .exact .inl d
   .exact .inr ⟨rfl,zwN a b c e d⟩
structure TR where
 fr:List af
 to:List af
 lv:Nat
def U2(k:Nat):List UInt8:=(aaI 4).map λi=>abu (k/2^(8*i)%256)
def acW(x:af):List UInt8:=[abu (x.op.toNat%256),abu (x.op.toNat/256%256),abu (x.jt.toNat%256),abu (x.jf.toNat%256)]++U2 x.k
def Fq(w:List af):List UInt8:=w.flatMap acW
def TR.by(r:TR):List UInt8:=U2 r.lv++([abu (r.fr.length%256),abu (r.to.length%256)]++(Fq r.fr++Fq r.to))
def TR.may(r:TR):Bool:=a_ r.fr&&a_ r.to&&decide (r.to.length<r.fr.length)&&decide (r.lv<262144)
def ye(a b:TR):Bool:=Op.bytesLess a.by b.by
def vr:List TR->Bool
 | []=>true
 | [_]=>true
 | a::b::l=>ye a b&&vr (b::l)
def eh(t:List TR):Bool:=t.all TR.may&&vr t&&decide (t.length<=64)
def qp(t:List TR)(r:TR):Nat:=(t.takeWhile λy=>ye y r).length
def se(t:List TR)(r:TR):Bool:=match t[qp t r]? with
 | some y=>decide (y.by=r.by)
 | none=>false
def q6(t:List TR)(r:TR):List TR×Int :=
 if(eh t&&r.may)=true then if se t r=true then(t,0) else if t.length=64 then(t,3) else(t.take (qp t r)++r::t.drop (qp t r),0)
 else(t,1)
def Cr(t:List TR)(w:List af)(live:Nat):Option (List af) :=
 if eh t=true then(t.find? λr=>decide (r.fr=w)&&decide (live%262144=r.lv)).map TR.to else none
def zCy{a:TR}{t:List TR}(h:vr (a::t)=true):vr t=true:=by
 cases t with
 | nil=>rfl
 | cons b l=>simp only[vr,aae] at h;exact h.2
def zta{a:TR}:∀{t:List TR},vr (a::t)=true->∀b∈t,ye a b=true
 | [],_,b,hb=>by cases hb
 | c::t,h,b,hb=>by
  simp only[vr,aae] at h
  rcases aaG.1 hb with rfl|hb
  .exact h.1
  .exact zwN _ _ _ h.1 (zta h.2 b hb)
def zuy{a:TR}{t:List TR}(h:∀b,t.head?=some b->ye a b=true)(c:vr t=true):vr (a::t)=true:=by
 cases t with
 | nil=>rfl
 | cons b l =>
  simp only[vr,aae];exact⟨h b rfl,c⟩
def zwO:∀{t:List TR} {r:TR},vr t=true->se t r=false->vr (t.take (qp t r)++r::t.drop (qp t r))=true
 | [],r,_,_=>by simp[qp,vr]
 | a::t,r,h,c=>by
  cases e:ye a r with
  | true =>
   have d:qp (a::t) r=qp t r+1:=by simp[qp,e]
   have g:se t r=false:=by rw[se,d,aba] at c;exact c
   have i:=zwO (zCy h) g;rw[d,acQ,abH,ab9];refine zuy (λb f=>?_) i;have hm:b∈t.take (qp t r)++r::t.drop (qp t r):=List.mem_of_mem_head? f;rw[aaE,aaG] at hm
   rcases hm with hm|rfl|hm
   .exact zta h b (abi hm)
   .exact e
   .exact zta h b (aa6 hm)
  | false =>
   have d:qp (a::t) r=0:=by simp[qp,e]
   rw[d,ade,acq,ace];refine zuy (λb f=>?_) h;simp only[List.head?_cons,abC.injEq] at f;subst f;rw[se,d] at c;simp only[abk,decide_eq_false_iff_not] at c;exact zCx _ _ e c
def zwP(t:List TR)(r:TR):qp t r<=t.length:=by unfold qp;exact(List.takeWhile_prefix _).length_le
def zwQ{t:List TR}{r:TR}(d:eh t=true)(e:r.may=true):eh (q6 t r).1=true/\t.length<=(q6 t r).1.length/\(q6 t r).1.length<=t.length+1/\(∀x∈(q6 t r).1,x∈t\/x=r):=by
 unfold q6;rw[d,e,if_pos (show(true&&true)=true from rfl)];have c:eh t=true/\t.length<=t.length/\t.length<=t.length+1/\(∀x∈t,x∈t\/x=r):=⟨d,aaF _,an,λx b=>.inl b⟩;split
 .exact c
 rename_i i;split
 .exact c
 rename_i k;have l:=zwP t r;simp only[eh,aae,decide_eq_true_eq] at d;obtain⟨⟨f,j⟩,m⟩:=d
 have a:(t.take (qp t r)++r::t.drop (qp t r)).length=t.length+1:=by simp only[aao,aap,aav,abG];omega
 have g:∀x∈t.take (qp t r)++r::t.drop (qp t r),x∈t\/x=r:=λx b=>by
  rw[aaE,aaG] at b
  rcases b with b|rfl|b
  .exact .inl (abi b)
  .exact .inr rfl
  .exact .inl (aa6 b)
 refine⟨?_,by rw[a];omega,by rw[a];exact aaF _,g⟩;simp only[eh,aae,decide_eq_true_eq];refine⟨⟨?_,zwO j (by simpa using i)⟩,by rw[a];omega⟩;rw[abe] at f |-;intro x b
 rcases g x b with h|rfl
 .exact f x h
 .exact e
def Mn(a:Nat):fc .u8 a=((a%256:Nat):Int):=by unfold fc;simp[IntKind.wrap,IntKind.bits,IntKind.signed]
def qL(x:af):List Nat:=[x.op.toNat%256,x.op.toNat/256%256,x.jt.toNat%256,x.jf.toNat%256]++cV x.k 4
def zEV(x:af):(qL x).length=8:=by simp[qL,cV]
def ml(w:List af):List Nat:=w.flatMap qL
def Hd:∀w:List af,(ml w).length=8*w.length
 | []=>rfl
 | x::w=>by rw[ml,abz,aao,zEV,<-ml,Hd w,aap];omega
def zz8(w:List af)(x:af):ml (w++[x])=ml w++qL x:=by simp[ml]
def zwR(w:List af):Fq w=(ml w).map abu:=by
 rw[Fq,ml,List.map_flatMap]
 congr 1
def zCz{x:af}(h:jS x=true):(0<=x.op/\x.op<=255)/\(0<=x.jt/\x.jt<=255)/\0<=x.jf/\x.jf<=255:=by
 cases a:oG x.op with
 | none=>simp[jS,a] at h
 | some r =>
  obtain⟨c,d⟩:=Gc a
  have e:∀r∈pg,0<=r.1/\r.1<=255:=by decide
  have b:=e r d;rw[c] at b;refine⟨b,?_⟩;rw[jS,a] at h;simp only[aae] at h;obtain⟨_,h⟩:=h;split at h
  .simp only[decide_eq_true_eq] at h;omega
  .simp only[decide_eq_true_eq] at h;omega
def zEW[aE G][ej G](w:List af)(l:w.length<=4096)(m:∀x∈w,x.k<4294967296)(d:∀x∈w,jS x=true):FP G 350 [FL w] (.int .i64 0):=by
 refine bw ej.afk (aaf rfl) ?_;have e:((4096:Int)<(w.length:Int))=False:=ah8;simp[FL,e];refine aO w.length (λi=>[(8,FL w),(9,.int .i64 w.length),(10,.int .i64 i)]) (λ_=>[]) (λ_=>True) ?_ ?_
 .simp[av,ak,FL]
 intro i hi _
 by_cases a:i<w.length
 .obtain⟨x,b⟩:=bb (w[i]);have c:=sC a;rw[<-b] at c;have f:=d x (by rw[b];exact aaD a);have g:x.cs.length=4:=rfl;have h:x.cs.take 4=x.cs:=rfl;simp(disch:=omega)[bC,FL,c,g,h];refine aw (Oa x) ?_;simp(disch:=omega)[f,a,bA,av,ak,-aab]
 .have j:i=w.length:=an
  subst j;simp
def zoX[aE G][ej G](w:List af)(z:w.length<=4096)(n:∀x∈w,x.k<4294967296)(p:∀x∈w,jS x=true):FP G 351 [FL w] (.bc [.vs (aq .u8 (ml w)) .no,.int .i64 0]):=by
 refine bw ej.afl (aaf rfl) ?_;have A:=zEW (G:=G) w z n p;simp[FL];refine aw A ?_;simp;obtain⟨T,a⟩:∃T:Nat->List Nat,∀j,T j=ml (w.take j):=⟨_,λ_=>rfl⟩
 have B:T 0=[]:=by rw[a];rfl
 refine aO w.length (λi=>[(5,.vs (aq .u8 (T i)) (.own 0)),(14,FL w),(15,.int .i64 w.length),(16,.int .i64 i)]) (λi=>[some (.zone (T i).length)]) (λ_=>True) ?_ ?_
 .simp[av,ak,FL,B]
 intro i hi _
 by_cases b:i<w.length
 .obtain⟨x,f⟩:=bb (w[i]);have q:=sC b;rw[<-f] at q;have O:x.k<4294967296:=n x (by rw[f];exact aaD b);obtain⟨P,Q,R⟩:=zCz (p x (by rw[f];exact aaD b))
  have C:T (i+1)=T i++qL x:=by rw[a,a,abf,aah b,acZ,zz8,f]
  have r:(T i).length=8*i:=by rw[a,Hd,aav];omega
  obtain⟨o,s⟩:∃o:Nat,x.op=o:=⟨x.op.toNat,an⟩;obtain⟨c,t⟩:∃o:Nat,x.jt=o:=⟨x.jt.toNat,an⟩;obtain⟨d,e⟩:∃o:Nat,x.jf=o:=⟨x.jf.toNat,an⟩;obtain⟨k,u⟩:∃k,x.k=k:=⟨_,rfl⟩
  have D:x.cs=[.int .i64 o,.int .i64 c,.int .i64 d,.int .u32 k]:=by rw[af.cs,s,t,e,u]
  have E:qL x=[o%256,o/256%256,c%256,d%256]++cV k 4:=by rw[qL,s,t,e,u];rfl
  have g:jZ .i64 o 8=((o/256:Nat):Int):=Ap (j:=8) ah9;obtain⟨U,h⟩:∃U:List Nat,U=T i++[o%256,o/256%256,c%256,d%256]:=⟨_,rfl⟩
  have v:U.length=8*i+4:=by rw[h,aao,r];rfl
  have F:aq .u8 (T i)++[[V.int .u8 (o%256:Nat)],[V.int .u8 (o/256%256:Nat)],[V.int .u8 (c%256:Nat)],[V.int .u8 (d%256:Nat)]]=aq .u8 U:=by rw[h];simp[aq]
  simp(disch:=omega)[bC,FL,q,D,Mn,g,F,r,aB,-aab,-abF,-abW]
  refine aO 4 (λj=>[(5,.vs (aq .u8 (U++cV k j)) (.own 0)),(7,.ptr 1 0),(14,FL w),(15,.int .i64 w.length),(16,.int .i64 i),(36,.int .i64 j)])
   (λj=>[some (.zone (8*i+4+j)),some (.cells [.int .i64 o,.int .i64 c,.int .i64 d,.int .u32 k]),none]) (λ_=>True) ?_ ?_
  .have H:cV k 0=[]:=rfl;simp[av,ak,FL,H]
  intro j S _
  by_cases l:j<4
  .have I:dS .i64 8 (j:Int)=((8*j:Nat):Int):=by unfold dS;exact IntWalk.i64_in _ ⟨an,an⟩
   have J:jZ .u32 k ((8*j:Nat):Int)=((k/256^j:Nat):Int):=by rw[Bu an,adq]
   have K:(((8*j:Nat):Int)<0)=False:=ah8
   have L:aq .u8 (U++cV k j)++[[V.int .u8 (k/256^j%256:Nat)]]=aq .u8 (U++cV k (j+1)):=by rw[ztF];simp[aq]
   have M:(U++cV k j).length=8*i+4+j:=by rw[aao,v,BI]
   simp(disch:=omega)[bC,K,I,J,Mn,L,M,aB,bA,l,av,ak,FL,-aab,-aa7,-abF,-abW,-ac8];omega
  .have m:j=4:=an
   subst m
   have y:U++cV k 4=T (i+1):=by rw[C,E,h,aaq]
   have N:(T (i+1)).length=8*i+4+4:=by rw[<-y,aao,v,BI]
   simp(disch:=omega)[y,N,b,bA,av,ak,FL,-aab]
 .have m:i=w.length:=an
  subst m
  have:T w.length=ml w:=by rw[a,abd]
  simp[this]
def zyV(k i:Nat)(hi:i<4)(b:k<4294967296):vA .u32 ((k%256^i:Nat):Int) (jz .u32 ((k/256^i%256:Nat):Int) ((8*i:Nat):Int))=((k%256^(i+1):Nat):Int):=by
 rw[N5 an]
 have e:256^i=2^(8*i):=by rw[adq]
 have c:k/256^i%256<256:=ack _ ah9
 have a:k/256^i%256*2^(8*i)<4294967296:=by
  have:i=0\/i=1\/i=2\/i=3:=an
  rcases this with rfl|rfl|rfl|rfl<;>simp at c |-<;>omega
 have d:k%256^i<2^32:=acX (Nat.mod_le _ _) b;rw[ac2 a,zH d a]
 have f:k%256^i<2^(8*i):=by rw[e];exact ack _ (Nat.two_pow_pos _)
 rw[acS,adj,<-Nat.two_pow_add_eq_or_of_lt f]
 congr 1
 rw[Nat.pow_succ,Nat.mod_mul,e];omega
def TR.cs(r:TR):List V:=[.vs (IL r.fr) .no,.vs (IL r.to) .no,.int .u32 r.lv]
def TV(r:TR):V:=.agg r.cs
def TL(t:List TR):List (List V):=t.map TR.cs
def TF(t:List TR):V:=.vs (TL t) .no
@[simp] theorem zNZ (t:List TR):(TL t).length=t.length:=by simp[TL]
theorem JX{t:List TR}{i:Nat}{r:TR}(h:t[i]?=some r):(TL t)[i]?=some r.cs:=by simp[TL,h]
def TR.ok(r:TR):Prop:=r.fr.length<=maxLen/\r.to.length<=maxLen/\(∀x∈r.fr,x.k<4294967296)/\(∀x∈r.to,x.k<4294967296)/\r.lv<4294967296
def Qc:∀l:List Nat,(∀b∈l,b<256)->CE (aq .u8 l)=some (l.map abu)
 | [],_=>rfl
 | b::l,h=>by
  have a:=Qc l λc d=>h c (by simp[d]);simp only[aq] at a;simp[aq,CE,a]
def Mp{w:List af}(h:a_ w=true):w.length<=32/\∀x∈w,jS x=true:=by simp only[a_,aae,decide_eq_true_eq,abe,mX] at h;exact⟨h.1,λx a=>(h.2 x a).1.2⟩
def zyW{x:af}:∀b∈qL x,b<256:=by
 intro b a;simp only[qL,cV,aaE,aaG,aaZ,or_false,abn,aaK] at a
 rcases a with(rfl|rfl|rfl|rfl)|⟨j,_,rfl⟩<;>exact ack _ ah9
def TR.ud(r:TR):List Nat:=cV r.lv 4++[r.fr.length%256,r.to.length%256]++ml r.fr++ml r.to
def zCA(r:TR):r.by=r.ud.map abu:=by
 have a:U2 r.lv=(cV r.lv 4).map abu:=by simp[U2,cV,aaI,aaI.loop]
 rw[TR.by,TR.ud,a,zwR,zwR];simp
def zwS(r:TR):∀b∈r.ud,b<256:=by
 intro b a;simp only[TR.ud,aaE,aaG,aaZ,or_false,ml,ac5] at a
 rcases a with((a|rfl|rfl)|⟨x,_,a⟩)|⟨x,_,a⟩
 .simp only[cV,abn,aaK] at a;obtain⟨j,_,rfl⟩:=a;exact ack _ ah9
 .exact ack _ ah9
 .exact ack _ ah9
 .exact zyW b a
 .exact zyW b a
def zuz[aE G][aD G][aQ G][cS G](r:TR)(h:r.ok):FP G 352 [TV r] (.bool r.may):=by
 refine bw cS.afm (aaf rfl) ?_;obtain⟨i,j,k,l,m⟩:=h;have e:=Ca (G:=G) r.fr i k;have f:=Ca (G:=G) r.to j l;simp only[FL] at e f;simp[TV,TR.cs];refine aw e ?_
 cases a:a_ r.fr with
 | false=>simp[TR.may,a]
 | true =>
  simp;refine aw f ?_
  cases b:a_ r.to with
  | false=>simp[TR.may,a,b]
  | true =>
   by_cases c:r.to.length<r.fr.length
   .by_cases g:r.lv<262144
    .have d:((r.lv:Int)<262144)=True:=ah7;simp[TR.may,a,b,c,g,d]
    .have d:((r.lv:Int)<262144)=False:=ah8;simp[TR.may,a,b,c,g,d]
   .simp[TR.may,a,b,c]
def SE(G:aL)(f:Nat)(args:List V)(H:ae)(r:V):Prop:=∃H1,bE G (.F f args H r H1)/\ak H.length H1=H
def zFH{f b:Nat}{body:bg}{a:List jw}{args:List V}{r:V}{H:ae}(d:G f=some ⟨b,body,a⟩)(e:args.length<=b)
  (h:W G body [] (il (qz 0 args)) H (QX a λg H1=>g=r/\ak H.length H1=H)):SE G f args H r:=by
 obtain⟨x,m,H1,c,i,vs,j,k,l⟩:=h;rw[<-NU] at c;rw[<-k];exact⟨_,.fn d e c i j,l⟩
def SE.vcall{f:Nat}{cap args:List V}{r:V}{H:ae}{base:Nat}{d:Option Nat}{os:List aF}{K:List Kt}{e:Env}{Q:Ex->Env->ae->Prop}{ro:Bool}(h:SE G f (args++cap) H r)(b:r.cl H.length=r)
  (c:WO G base os K (e.put d r) H Q):KU G ro (.fn f cap) args base d os K e H Q:=by
 obtain⟨H1,g,a⟩:=h;refine kW g (λ_=>a) ?_;rw[b,a];exact c
def SE.scall{f:Nat}{args:List V}{r:V}{H:ae}{base:Nat}{d:Option Nat}{os:List aF}{K:List Kt}{e:Env}{Q:Ex->Env->ae->Prop}(h:SE G f args H r)(a:r.cl H.length=r)
  (b:WO G base os K (e.put d r) H Q):R_ G f args base d os K e H Q:=by
 obtain⟨H1,c,g⟩:=h;refine zG c ?_;rw[a,g];exact b
def Qd[aE G][ej G][cS G](r:TR)(C:r.ok)(p:r.may=true)(H:ae)(q:iq H):SE G 353 [TV r] H (.str r.by):=by
 refine zFH cS.afn (aaf rfl) ?_;have d:=La q;have E:∀s:ae,ak H.length (H++s)=H:=λs=>q.back s;obtain⟨S,T,F,I,U⟩:=C;simp only[TR.may,aae,decide_eq_true_eq] at p;obtain⟨⟨⟨J,K⟩,_⟩,_⟩:=p;obtain⟨W,L⟩:=Mp J;obtain⟨X,M⟩:=Mp K;have t:=zoX (G:=G) r.fr an F L;have u:=zoX (G:=G) r.to an I M;simp only[FL] at t u;obtain⟨v,f⟩:∃v,r.lv=v:=⟨_,rfl⟩;have N:jZ .u32 v 8=((v/256:Nat):Int):=Bu (j:=8) ah9
 have O:jZ .u32 v 16=((v/65536:Nat):Int):=Bu (j:=16) ah9;have P:jZ .u32 v 24=((v/16777216:Nat):Int):=Bu (j:=24) ah9;obtain⟨B,e⟩:∃B:List Nat,B=cV v 4++[r.fr.length%256,r.to.length%256]:=⟨_,rfl⟩
 have x:B.length=6:=by rw[e];simp[cV]
 have k:[[V.int .u8 (v%256:Nat)],[V.int .u8 (v/256%256:Nat)],[V.int .u8 (v/65536%256:Nat)],[V.int .u8 (v/16777216%256:Nat)],[V.int .u8 (r.fr.length%256:Nat)],[V.int .u8 (r.to.length%256:Nat)]]=aq .u8 B:=by rw[e];simp[aq,cV,aaI,aaI.loop]
 simp(disch:=omega)[ll,TV,TR.cs,f,N,O,P,Mn,k,-abF,-abW]
 obtain⟨D,g⟩:∃D:Nat->List Nat,∀j,D j=if j=0 then B else if j=1 then B++ml r.fr else B++ml r.fr++ml r.to:=⟨_,λ_=>rfl⟩
 have a:D 0=B:=by rw[g];rfl
 have c:D 1=B++ml r.fr:=by rw[g];rfl
 have m:D 2=r.ud:=by rw[g,TR.ud,f,e];rfl
 have n:(D 1).length=6+8*r.fr.length:=by rw[c,aao,x,Hd]
 have Q:(D 2).length=6+8*r.fr.length+8*r.to.length:=by rw[m,TR.ud,aao,f,<-e,<-c,n,Hd]
 have p1:aq .u8 B++aq .u8 (ml r.fr)=aq .u8 (D 1):=by rw[c];simp[aq]
 have p2:aq .u8 (D 1)++aq .u8 (ml r.to)=aq .u8 (D 2):=by rw[c,g];simp[aq]
 have q1:(ml r.fr).length=8*r.fr.length:=Hd _;have R:(ml r.to).length=8*r.to.length:=Hd _
 have n1:∀l:List Nat,(aq .u8 l=[])=(l=[]):=λl=>by simp[aq]
 have i:∀w:List af,(ml w=[])=(w=[]):=λw=>propext ⟨λh=>acm (by have:=Hd w;rw[h] at this;simp at this;omega),λh=>by rw[h];rfl⟩;have y:=Qc r.ud (zwS r);rw[<-zCA,<-m] at y
 refine aO 2 (λj=>[(3,.vs (aq .u8 (D j)) (.own (H.length+1))),(36,.agg [.vs (IL r.fr) .no,.vs (IL r.to) .no]),(37,.int .i64 j)])
  (λj=>H++[some (.cells [.vs (IL r.fr) .no,.vs (IL r.to) .no,.int .u32 v]),some (.zone (D j).length)]) (λ_=>True) ?_ ?_
 .simp[av,d,a]
 have z:aC .i64 0 1=1:=qq
 have A:aC .i64 1 1=2:=qq
 intro j Y _
 rcases(show j=0\/j=1\/j=2 by omega) with rfl|rfl|rfl
 .simp;refine aw t ?_
  by_cases b:r.fr=[]
  .have o:D 1=B:=by rw[c,b];simp[ml]
   simp(disch:=omega)[a,n1,i,b,o,av,d,z]
  .simp(disch:=omega)[a,n1,i,b,x,q1,n,p1,aB,av,d,iG,z]
 .simp;refine aw u ?_
  by_cases b:r.to=[]
  .have o:D 2=D 1:=by rw[m,TR.ud,f,<-e,<-c,b];simp[ml]
   simp(disch:=omega)[n1,i,b,o,av,d,A]
  .simp(disch:=omega)[n1,i,b,R,n,Q,p2,aB,av,d,iG,A]
 .simp[y,E]
end Go.Ev
