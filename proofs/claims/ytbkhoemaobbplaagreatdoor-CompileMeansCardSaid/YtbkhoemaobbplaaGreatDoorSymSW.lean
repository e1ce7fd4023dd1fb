/- Numbers of sums, bits and deeds: plain laws. -/
import Derived.Test.YtbkhoemaobbplaaGreatDoorInsAW
import Derived.Test.YtbkhoemaobbplaaGreatDoorEvWinCW
import Derived.Test.YtbkhoemaobbplaaGreatDoorEvInsCW
import Derived.Test.YtbkhoemaobbplaaGreatDoorEvBitsCW
import Derived.KernelRfl
set_option linter.defProp false
set_option linter.unusedSimpArgs false
set_option linter.unusedVariables false
set_option maxHeartbeats 4000000
set_option maxRecDepth 10000
open List renaming getElem?_eq_some_iff->aab,take_of_length_le->aae,getElem?_append_left->aaf,getD_eq_getElem?_getD->aag,getElem?_eq_getElem->aah,drop_eq_nil_of_le->aai,length_cons->aan,length_append->aao,append_assoc->aap,length_set->aaq,getElem?_set_ne->aas,set_append_left->aat,mem_of_getElem?->aaA,length_take->aaB,reduceReplicate->aaC,getD_cons_succ->aaD,mem_cons->aaG,not_mem_nil->aaH,mem_range->aaI,drop_eq_getElem_cons->aaJ,take_add_one->aaL,getElem?_cons_succ->aaN,take_length->aaO,replicate->aaP,getD->aaT,append_nil->aaW,range->aaZ,getElem_mem->aa0,map_cons->aa2,mem_filterMap->aa3,mem_append->aa4,getElem?_set_self->aa5,set_append_right->aba,drop_drop->abe,mem_of_mem_drop->abi,getElem?_append_right->abj,replicate_succ->abl,length_map->abm,getElem?_cons_zero->abn,getElem?_set->abo,find?_append->abp,getElem?_map->abt,flatMap_cons->abu,zipWith_cons_cons->abw,set_comm->aby,take_succ_eq_append_getElem->abz,any_eq_true->abA,take_left'->abB,drop_left'->abD,mem_map->abE,map_set->abF,length_nil->abG,drop_append_of_le_length->abH,drop_succ_cons->abJ,map_congr_left->abK,set_cons_zero->abP,set_cons_succ->abQ,find?_eq_none->abS,mem_singleton->abT,drop_one->abU,mem_of_find?_eq_some->abV,map_nil->ab0,take_append_drop->ab6,countP_le_length->ab7,getElem?_take->ab_,getElem?_drop->acd,map_map->acf,all_eq_true->ach,countP_cons->acj,find?_some->ack,foldl_cons->acm,map_append->acn,tail_cons->acp,drop_zero->acv,map_take->acw,set_set->acB
open Int renaming natCast_add->aad,natCast_mul->aax,eq_ofNat_of_zero_le->aay,toNat_natCast->aaY,natCast_emod->abZ,natCast_ediv->acg,mul_emod->acx
open Nat renaming le_of_ble_eq_true->aaj,le_refl->aav,lt_succ_iff_lt_or_eq->aaw,zero_add->aa1,add_comm->abC,testBit_two_pow_sub_one->abR,succ_mul->ab2,min_eq_left->ab4,le_trans->aca,add_zero->ace,mul_comm->acz,sub_self->acA
open Bool renaming and_eq_true->aak,false_eq_true->aar,true_and->aaX,false_and->abN,or_eq_false_iff->ab8
open Function renaming comp_def->aal,comp->ab9
open Option renaming map->aau,map_some->ab3,some->ab5,getD_some->aci
namespace Go.Ev
open Go Go.RowKit
variable {L:List Nd} {v:List Nat}
def dot:List Nat->List Nat->Int
 | a::f,b::v=>a*b+dot f v
 | _,_=>0
def zy3:∀(f v:List Nat),((List.zipWith (·*·) f v).sum:Nat)=dot f v
 | [],_=>by simp[dot]
 | _::_,[]=>by simp[dot]
 | a::f,b::v=>by
  have:=zy3 f v;simp only[abw,List.sum_cons,dot];omega
def DB{c:Nat}{t:List Nat}(a:t.length=34)(b:v.length=34):(j8 (c::t) v:Int)=((c:Int)+dot t v)%4294967296:=by
 have e:(xu (c::t) v 34:Int)=dot t v:=by rw[xu,abU,acp,aae (by simp[a,b]),zy3]
 rw[j8,List.headD_cons];rw[<-e];omega
def JS(a b:Int):Prop:=∃k:Int,a=b+4294967296*k
def Uu(a:Nat):∃q:Int,((a%4294967296:Nat):Int)=(a:Int)-4294967296*q:=⟨((a/4294967296:Nat):Int),an⟩
def zy4:∀(f g v:List Nat),f.length=g.length->JS (dot (jZ f g) v) (dot f v+dot g v)
 | [],[],v,_=>⟨0,by simp[jZ,dot]⟩
 | [],_::_,_,h=>by simp at h
 | _::_,[],_,h=>by simp at h
 | _::_,_::_,[],_=>⟨0,by simp[jZ,dot]⟩
 | a::f,b::g,x::v,h=>by
  obtain⟨k,c⟩:=zy4 f g v (by simpa using h);obtain⟨q,d⟩:=Uu (a+b);refine⟨k-q*x,?_⟩;simp only[jZ,abw,dot] at c |-;rw[c,d];simp only[aad]
  grind
def zy5:∀(f g v:List Nat),f.length=g.length->(∀x∈g,x<4294967296)->JS (dot (fD f g) v) (dot f v-dot g v)
 | [],[],v,_,_=>⟨0,by simp[fD,dot]⟩
 | [],_::_,_,h,_=>by simp at h
 | _::_,[],_,h,_=>by simp at h
 | _::_,_::_,[],_,_=>⟨0,by simp[fD,dot]⟩
 | a::f,b::g,x::v,h,c=>by
  obtain⟨k,d⟩:=zy5 f g v (by simpa using h) λy j=>c y (by simp[j]);obtain⟨q,i⟩:=Uu (a+4294967296-b);have l:=c b ir
  have e:((a+4294967296-b:Nat):Int)=(a:Int)+4294967296-b:=an
  rw[e] at i;refine⟨k-q*x+x,?_⟩;simp only[fD,abw,dot] at d |-;rw[d,i]
  grind
def zy6(k:Nat):∀(f v:List Nat),JS (dot (eH f k) v) (dot f v*k)
 | [],v=>⟨0,by simp[eH,dot]⟩
 | _::_,[]=>⟨0,by simp[eH,dot]⟩
 | a::f,x::v=>by
  obtain⟨j,b⟩:=zy6 k f v;obtain⟨q,c⟩:=Uu (a*k);refine⟨j-q*x,?_⟩;simp only[eH,aa2,dot] at b |-;rw[b,c];simp only[aax]
  grind
def L5{f:List Nat}(a:f.length=35):∃c t,f=c::t/\t.length=34:=by
 match f,a with
 | c::t,h=>exact⟨c,t,rfl,by simpa using h⟩
def zCB{f g:List Nat}(i:f.length=35)(j:g.length=35)(a:v.length=34):j8 (jZ f g) v=(j8 f v+j8 g v)%4294967296:=by obtain⟨c,t,rfl,b⟩:=L5 i;obtain⟨d,u,rfl,h⟩:=L5 j;have e:jZ (c::t) (d::u)=((c+d)%4294967296)::jZ t u:=rfl;have n:=DB (c:=c) b a;have o:=DB (c:=d) h a;have l:=DB (c:=(c+d)%4294967296) (t:=jZ t u) (v:=v) (by simp[jZ,b,h]) a;obtain⟨k,m⟩:=zy4 t u v an;rw[m] at l;rw[e];omega
def zuv{f g:List Nat}(j:f.length=35)(l:g.length=35)(b:∀x∈g,x<4294967296)(a:v.length=34):j8 (fD f g) v=(j8 f v+4294967296-j8 g v)%4294967296:=by obtain⟨c,t,rfl,h⟩:=L5 j;obtain⟨d,u,rfl,i⟩:=L5 l;have e:fD (c::t) (d::u)=((c+4294967296-d)%4294967296)::fD t u:=rfl;have p:=DB (c:=c) h a;have q:=DB (c:=d) i a;have m:=DB (c:=(c+4294967296-d)%4294967296) (t:=fD t u) (v:=v) (by simp[fD,h,i]) a;obtain⟨k,n⟩:=zy5 t u v an λx o=>b x (by simp[o]);have hd:=b d ir;rw[n] at m;rw[e];omega
def zoX{f:List Nat}(k:Nat)(g:f.length=35)(a:v.length=34):j8 (eH f k) v=j8 f v*k%4294967296:=by
 obtain⟨c,t,rfl,b⟩:=L5 g;have e:eH (c::t) k=(c*k%4294967296)::eH t k:=rfl;have h:=DB (c:=c) b a;have d:=DB (c:=c*k%4294967296) (t:=eH t k) (v:=v) (by simp[eH,b]) a;obtain⟨j,i⟩:=zy6 k t v;obtain⟨q,l⟩:=Uu (c*k);rw[i,l] at d;rw[e]
 have m:(j8 (c*k%4294967296::eH t k) v:Int)=((c+dot t v)*k)%4294967296:=by
  rw[d]
  have:((c*k:Nat):Int)-4294967296*q+(dot t v*k+4294967296*j)=(c+dot t v)*k+4294967296*(j-q):=by simp only[aax];grind
  rw[this,Int.add_mul_emod_self_left]
 have n:((j8 (c::t) v*k%4294967296:Nat):Int)=((c+dot t v)*k)%4294967296:=by rw[abZ,aax,h,show((4294967296:Nat):Int)=4294967296 from rfl,acx,Int.emod_emod,<-acx]
 omega
def zoY:∀(n:Nat) (v:List Nat),dot (aP n) v=0
 | 0,_=>by simp[aP,dot]
 | n+1,[]=>by simp[aP,abl,dot]
 | n+1,x::v=>by
  have:=zoY n v;simp only[aP,abl,dot] at this |-;omega
def DC{c:Nat}(b:c<4294967296)(a:v.length=34):j8 (c::aP 34) v=c:=by have h:=DB (c:=c) (t:=aP 34) (v:=v) ir a;rw[zoY] at h;omega
def zy7:∀(n i:Nat) (v:List Nat) (h:i<v.length),i<n->dot ((aP n).set i 1) v=(v[i]:Nat)
 | 0,i,v,h,hi=>by omega
 | n+1,i,[],h,hi=>by simp at h
 | n+1,0,x::v,h,hi=>by
  have:=zoY n v;simp only[aP,abl,abP,dot,List.getElem_cons_zero] at this |-
  omega
 | n+1,i+1,x::v,h,hi=>by
  have:=zy7 n i v (by simpa using h) an;simp only[aP,abl,abQ,dot,List.getElem_cons_succ] at this |-;omega
def zoZ{i:Nat}(hi:i<34)(a:v.length=34)(b:∀x∈v,x<4294967296):j8 (cI i) v=v[i]'(by omega):=by have e:cI i=0::(aP 34).set i 1:=rfl;have h:=DB (c:=0) (t:=(aP 34).set i 1) (v:=v) ir a;have d:=b _ (aa0 (show i<v.length by omega));rw[zy7 34 i v an hi] at h;rw[e];omega
variable {L L':List Nd} {v:List Nat}
def zuw{c:Nat}(a:c<4294967296)(r:Int->Nat):val [] [c] r=c:=by
 rw[val,<-QN (w:=c) a]
 exact QM λi hi=>by simp[dm,idx,QN (w:=c) a]
def zy8(i:Int)(r:Int->Nat)(a:r i<4294967296):val [i] [0,ones] r=r i:=by
 rw[val,<-QN (w:=r i) a];refine QM λj b=>?_
 have e:ones.testBit j=true:=by rw[ones,show 4294967295=2^32-1 from rfl,abR];simpa using b
 cases h:(r i).testBit j<;>simp[dm,idx,h,e]
def zES{a:Nat}(b:a<4294967296):a ^^^ ones=4294967295-a:=by
 refine Nat.eq_of_testBit_eq λj=>?_;rw[Nat.testBit_xor,ones,show 4294967295=2^32-1 from rfl,abR,show 2^32-1-a=2^32-(a+1) by omega,Nat.testBit_two_pow_sub_succ b]
 by_cases c:j<32
 .simp[c]
 .simp only[c,decide_false,abN,Bool.xor_false];exact Nat.testBit_lt_two_pow (Nat.lt_of_lt_of_le b (Nat.pow_le_pow_right (n:=2) (i:=32) ag7 an))
def zG1(i:Int)(r:Int->Nat)(a:r i<4294967296):val [i] [ones,0] r=4294967295-r i:=by have h:=zAZ (kind:=164) (fv:=[i]) (gv:=[]) (vs:=[i]) (ft:=[0,ones]) (gt:=[ones]) (tab:=[ones,0]) (.inr (.inr rfl)) (λp=>by cases h:p i<;>simp[dm,idx,h,cA,ones]) r;rw[zy8 i r a,zuw ag7] at h;simp only[cA] at h;rw[h];simp;exact zES a
def JT{f:List Nat}{c:Nat}(a:f.length=35)(h:o8 f=some c):f=c::aP 34:=by
 obtain⟨d,t,rfl,b⟩:=L5 a;rw[o8] at h;split at h
 .rename_i e;cases h;rw[<-e];rfl
 .cases h
def zy9{f:List Nat}{i:Nat}(h:nb f=some i):f=cI i:=by have:=ack h;simpa using this
def L7(i:Nat):dw v L i=(dj v L)[i]?.join:=by
 rw[dw]
 by_cases h:i<L.length
 .have:cD L i=true:=by simp[cD];exact h
  rw[if_pos this];rfl
 .have:¬cD L i=true:=by simp[cD];omega
  rw[if_neg this,List.getElem?_eq_none (by rw[wL];omega)];rfl
def zw2{a:Nd}{i:Nat}(b:a.cM i)(e:i<=L.length):gr v (dj v (L.take i)) a=gr v (dj v L) a:=by
 rw[gr,gr];split
 .rfl
 .split
  .rfl
  .rcases b.2.2 with h|h|⟨_,c,d,_⟩
   .contradiction
   .contradiction
   .rw[<-KJ,ab_,if_pos c,ab_,if_pos d]
def Uv{i:Nat}{a:Nd}(h:Inv L)(b:L[i]?=some a):dw v L i=gr v (dj v L) a:=by rw[L7,zyk b,zw2 (h.cM i a b) (by have:=(aab.1 b).1;omega)];rfl
def L8{k i:Nat}(h:Ext L L' k)(hi:i<L.length):dw v L' i=dw v L i:=by rw[L7,L7,zyi (zvC h.pre) (kW (by rw[wL];exact hi)),kW (by rw[wL];exact hi)]
def zqW{a:Nd}{p:List Int×List Nat}{k:List (Option Nat)}(o:a.ok)(q:a.wf)(b:gG a=some p)(g:v.length=34)(l:∀x∈v,x<4294967296):gr v k a=some (val p.1 p.2 (p9 v)):=by
 by_cases m:a.kind=1
 .rw[gr,if_neg an,if_pos m,b];rfl
 .have j:a.kind=0:=by
   by_cases j:a.kind=0
   .exact j
   .rw[gG,if_neg m,if_neg j] at b;cases b
  have n:∀(i:Nat) (h:i<34),p9 v (i:Int)=v[i]'(by omega):=λi h=>by
   rw[p9,aaY,aag,kW an];rfl
  have r:∀i:Nat,i<34->p9 v (i:Int)<4294967296:=λi h=>by rw[n i h];exact l _ (aa0 _)
  rw[gr,if_pos j];rw[gG,if_neg m,if_pos j] at b
  congr 1
  split at b
  .rename_i c s;cases b;have t:=yF s q.1;rw[JT o.1 s,DC t g,zuw t]
  .split at b
   .rename_i i hi;cases b;have d:=R5 hi;rw[zy9 hi,zoZ d g l,zy8 _ _ (r i d),n i d]
   .split at b
    .rename_i i hi;cases b;have d:=R5 hi
     have e:=congrArg (j8 · v) (zy9 hi)
     rw[zuv ir o.1 q.1 g,zoZ d g l,DC ag7 g] at e;have u:=zvD a.f v;rw[zG1 _ _ (r i d),n i d,<-e];simp only[ones];omega
    .cases b
def wv(v:List Nat)(p:Int×List Nd)(o:Option Nat):Prop:=∃i:Nat,p.1=i/\i<p.2.length/\dw v p.2 i=o
def zza{a:Nd}(h:Inv L)(b:a.cM L.length):wv v (bf L a) (gr v (dj v L) a):=by
 obtain⟨e,i,d,c⟩:=wK h b;refine⟨i,d,(aab.1 c).1,?_⟩;rw[Uv e.inv c]
 have:L=(bf L a).2.take L.length:=by obtain⟨t,f⟩:=e.pre;rw[<-f,abB rfl]
 conv=>rhs;rw[this]
 rw[zw2 b e.pre.length_le]
def Uw{f:List Nat}(h:Inv L)(a:f.length=35)(b:∀c∈f,c<4294967296):wv v (bf L (fg f)) (some (j8 f v)):=zza h (zH a b _)
def zET{fv:List Int}{ft:List Nat}(h:Inv L)(f:Right fv ft)(g:∀c∈ft,c<4294967296)(j:v.length=34)(k:∀x∈v,x<4294967296):wv v (tu L fv ft) (some (val fv ft (p9 v))):=by obtain⟨e,i,a,l,b,m⟩:=zvB h f g;refine⟨i,l,(aab.1 b).1,?_⟩;have d:=e.inv.cM i a b;rw[Uv e.inv b,zqW d.1 d.2.1 m j k]
def Ux{kind:Int}{a c:Nat}(h:(cA kind a c).2=true):gH kind (some a) (some c)=some (cA kind a c).1:=by rw[gH];simp only[h,if_true]
def zuQ{k:Nat}:(cA 100 1 k).1=2^(k%32)%4294967296:=by simp[cA]
def zEU{kind:Int}{a c:Nd}(h:Inv L)(j:a.ok)(l:c.ok)(B:a.wf)(s:c.wf)(i:v.length=34)(b:(kf L kind a c).2.1=true) :
  a.kind=0/\c.kind=0/\wv v ((kf L kind a c).1,(kf L kind a c).2.2) (gH kind (some (j8 a.f v)) (some (j8 c.f v))):=by
 rw[kf] at b |-;split at b
 case isFalse=>simp[lE] at b
 rename_i w;rw[if_pos w];refine⟨w.1,w.2,?_⟩
 have conv:∀(f:List Nat) (n:Nat),f.length=35->(∀c∈f,c<4294967296)->j8 f v=n->(cA kind (j8 a.f v) (j8 c.f v)).2=true->(cA kind (j8 a.f v) (j8 c.f v)).1=n ->
   wv v ((mN (bf L (fg f))).1,(mN (bf L (fg f))).2.2) (gH kind (some (j8 a.f v)) (some (j8 c.f v))):=λf n D E e F G=>by
  rw[Ux F,G,<-e];exact Uw h D E
 by_cases x:kind=4
 .simp only[x,if_true] at b |-;subst x;exact conv _ _ (zvz j.1 l.1) (zyj _ _) (zCB j.1 l.1 i) (by simp[cA]) (by simp[cA])
 by_cases y:kind=20
 .simp only[y,if_true] at b |-;subst y;exact conv _ _ (XA j.1 l.1) (Xz _ _) (zuv j.1 l.1 s.1 i) (by simp[cA]) (by simp[cA])
 simp only[x,y,if_false] at b |-
 have q:∀k,o8 c.f=some k->kind=36->wv v ((mN (bf L (fg (eH a.f k)))).1,(mN (bf L (fg (eH a.f k)))).2.2) (gH kind (some (j8 a.f v)) (some (j8 c.f v))):=λk d g=>by
  have p:=yF d s.1
  have z:j8 c.f v=k:=by rw[JT l.1 d,DC p i]
  subst g;exact conv _ _ (Gb _ j.1) (Ga _ _) (zoX k j.1 i) (by simp[cA]) (by rw[z];simp[cA])
 have r:∀k,o8 c.f=some k->kind=100->wv v ((mN (bf L (fg (eH a.f (cA 100 1 k).1)))).1,(mN (bf L (fg (eH a.f (cA 100 1 k).1)))).2.2) (gH kind (some (j8 a.f v)) (some (j8 c.f v))):=λk d m=>by
  have p:=yF d s.1
  have z:j8 c.f v=k:=by rw[JT l.1 d,DC p i]
  subst m;refine conv _ _ (Gb _ j.1) (Ga _ _) (zoX _ j.1 i) (by simp[cA]) ?_;rw[z,zuQ];simp[cA,Nat.mul_mod]
 split at b
 .rename_i u k o d
  try simp only[o,d]
  split at b
  .rename_i g;rw[if_pos g];exact q k d g
  .rename_i g;rw[if_neg g];split at b
   .rename_i m;rw[if_pos m];exact r k d m
   .rename_i m;rw[if_neg m];simp only at b;have t:=yF o B.1;have C:=yF d s.1
    have A:j8 a.f v=u:=by rw[JT j.1 o,DC t i]
    have H:j8 c.f v=k:=by rw[JT l.1 d,DC C i]
    have p:=RE kind t C;rw[A,H,Ux b];have:=Uw (v:=v) h (f:=(cA kind u k).1::aP 34) ir (CQ p);rwa[DC p i] at this
 .rename_i k o d
  try simp only[o,d]
  split at b
  .rename_i g;rw[if_pos g];exact q k d g
  .rename_i g;rw[if_neg g];split at b
   .rename_i m;rw[if_pos m];exact r k d m
   .simp[lE] at b
 .rename_i u o d
  try simp only[o,d]
  split at b
  .rename_i g;rw[if_pos g];have t:=yF o B.1
   have A:j8 a.f v=u:=by rw[JT j.1 o,DC t i]
   subst g;refine conv _ _ (Gb _ l.1) (Ga _ _) (zoX u l.1 i) (by simp[cA]) ?_;rw[A];simp[cA,acz]
  .simp[lE] at b
 .simp[lE] at b
def zEV{kind:Int}{a c:Nd}(h:Inv L)(n:a.wf)(o:c.wf)(i:v.length=34)(j:∀x∈v,x<4294967296)(d:(lG L kind a c).2.1=true) :
  ∃p q,gG a=some p/\gG c=some q/\wv v ((lG L kind a c).1,(lG L kind a c).2.2) (gH kind (some (val p.1 p.2 (p9 v))) (some (val q.1 q.2 (p9 v)))):=by
 cases b:gG a with
 | none=>simp[lG,b,lE] at d
 | some p =>
  cases e:gG c with
  | none=>simp[lG,b,e,lE] at d
  | some q =>
   cases f:zG kind p q with
   | none=>simp[lG,b,e,f,lE] at d
   | some r =>
    refine⟨p,q,rfl,rfl,?_⟩;simp only[lG,b,e,f,mN];obtain⟨g,k,l,m⟩:=R6 f
    have hd:∀x y,(cA kind x y).2=true:=λx y=>by rcases g.1 with rfl|rfl|rfl<;>simp[cA]
    rw[Ux (hd _ _),<-zAZ g.1 m];exact zET h k l i j
def zEW{a:Nat}(b:a<4294967296):a &&& 4294967295=a:=by rw[show 4294967295=2^32-1 from rfl,Nat.and_two_pow_sub_one_eq_mod];exact Nat.mod_eq_of_lt b
def zux{kind:Int}{c:Nd}{x y:Int}{b g:Option Nat}(m:∀w,b=some w->w<4294967296)(q:c.ok)(r:c.wf)(s:v.length=34)(t:c.kind=0->g=some (j8 c.f v))(u:x=y->b=g)
  (a:(kF kind (qy c) x y).2=true):(kF kind (qy c) x y).1=x/\b=gH kind b g:=by
 have d:∀k,qy c=some k->g=some k:=λk d=>by
  rw[qy] at d;split at d
  .rename_i z;rw[t z,JT q.1 d,DC (yF d r.1) s]
  .cases d
 have zero:qy c=some 0->(∀w,w<4294967296->cA kind w 0=(w,true))->b=gH kind b g:=λn hd=>by
  rw[d 0 n]
  cases b with
  | none=>rfl
  | some w=>simp only[gH,hd w (m w rfl),if_true]
 have e:x=y->(∀w,w<4294967296->cA kind w w=(w,true))->b=gH kind b g:=λn hd=>by
  rw[<-u n]
  cases b with
  | none=>rfl
  | some w=>simp only[gH,hd w (m w rfl),if_true]
 rw[kF] at a |-;split at a
 .rename_i o;rw[if_pos o];refine⟨rfl,zero (by simpa using a) λw i=>?_⟩
  rcases o with rfl|rfl|rfl|rfl<;>simp[cA]<;>omega
 .rename_i A;rw[if_neg A];split at a
  .rename_i j;rw[if_pos j];subst j;refine⟨rfl,?_⟩;simp at a
   rcases a with h|h
   .exact zero h λw i=>by simp[cA]
   .exact e h λw i=>by simp[cA]
  .rename_i j;rw[if_neg j];split at a
   .rename_i l;rw[if_pos l];subst l;exact⟨rfl,zero (by simpa using a) λw i=>by simp[cA]⟩
   .rename_i l;rw[if_neg l];split at a
    .rename_i p;rw[if_pos p];subst p;refine⟨rfl,?_⟩;simp at a
     rcases a with h|h
     .rw[d _ h]
      cases b with
      | none=>rfl
      | some w=>simp[gH,cA,ones,zEW (m w rfl)]
     .exact e h λw i=>by simp[cA]
    .simp at a
def zEX{kind:Int}(h:xE kind=true)(a b:Nat):cA kind a b=cA kind b a:=by simp[xE] at h;obtain⟨c,d,e,f⟩:=h;simp only[cA,c,d,e,f,if_false,abC a b,acz a b,Nat.or_comm a b,Nat.and_comm a b,Nat.xor_comm a b]
def zuy{kind:Int}(h:xE kind=true)(o o':Option Nat):gH kind o o'=gH kind o' o:=by
 cases o<;>cases o'<;>simp[gH]
 rw[zEX h]
def ztd{i:Nat}{w:Nat}(h:Inv L)(a:dw v L i=some w):w<4294967296:=by
 rw[L7] at a
 cases e:(dj v L)[i]? with
 | none=>rw[e] at a;cases a
 | some o =>
  rw[e] at a;have:=XD (k:=L.length) (o:=o) (i:=i) h (by rw[aaO];exact e);rw[show o=some w from a] at this;exact this
def zzb{kind x y:Int}(h:Inv L)(n:v.length=34)(s:∀c∈v,c<4294967296)(I:(cA kind 0 1).2=true)(J:cD L x=true)(K:cD L y=true) :
  wv v (iD L kind x y) (gH kind (dw v L x) (dw v L y)):=by
 rw[iD,if_pos ⟨I,J,K⟩]
 obtain⟨N,V⟩:0<=x/\x<L.length:=by simpa[cD] using J
 obtain⟨O,W⟩:0<=y/\y<L.length:=by simpa[cD] using K
 obtain⟨j,rfl⟩:=aay N;obtain⟨l,rfl⟩:=aay O;obtain⟨a,t⟩:∃a,L[j]?=some a:=⟨_,kW an⟩;obtain⟨c,z⟩:∃c,L[l]?=some c:=⟨_,kW an⟩;have b:=h.cM _ _ t;have d:=h.cM _ _ z;simp only[aaY,t,z];have m:=XB (kind:=kind) h b.1 d.1 b.2.1 d.2.1;obtain⟨o,A⟩:=bb ((kf L kind a c).2.2);rw[<-A] at m;have X:=m.pre.length_le;have B:=Uv (v:=v) h t;have C:=Uv (v:=v) h z;have D:=L8 (v:=v) m (i:=j) an
 have E:=L8 (v:=v) m (i:=l) an;have Y:=zv5 (kind:=kind) m.inv b.2.1 d.2.1;rw[sM];simp only[<-A];split
 .rename_i g;obtain⟨P,Q,F⟩:=zEU (v:=v) h b.1 d.1 b.2.1 d.2.1 n g;rw[B,C,gr,if_pos P,gr,if_pos Q,A];exact F
 .split
  .rename_i g;obtain⟨p,q,R,S,F⟩:=zEV (v:=v) m.inv b.2.1 d.2.1 n s g;rw[B,C,zqW b.1 b.2.1 R n s,zqW d.1 d.2.1 S n s];exact F
  .have T:a.kind=0->dw v L j=some (j8 a.f v):=λk=>by rw[B,gr,if_pos k]
   have ky:c.kind=0->dw v L l=some (j8 c.f v):=λk=>by rw[C,gr,if_pos k]
   split
   .rename_i g;obtain⟨G,H⟩:=zux (v:=v) (x:=(j:Int)) (y:=(l:Int)) (λw r=>ztd h r) d.1 d.2.1 n ky (λe=>by rw[e]) g;refine⟨j,G,by show j<o.length;omega,?_⟩;rw[<-H];exact D
   .split
    .rename_i g;obtain⟨G,H⟩:=zux (v:=v) (x:=(l:Int)) (y:=(j:Int)) (λw r=>ztd h r) b.1 b.2.1 n T (λe=>by rw[e]) g.2;refine⟨l,G,by show l<o.length;omega,?_⟩;rw[zuy g.1,<-H];exact E
    .have M:∀u w:Nat,u<L.length->w<L.length->wv v (bf o (Aj kind u w)) (gH kind (dw v L u) (dw v L w)):=λu w U r=>by
      have:=zza (v:=v) m.inv (YZ (kind:=kind) (x:=u) (y:=w) I an an)
      have e:gr v (dj v o) (Aj kind u w)=gH kind (dw v L u) (dw v L w):=by rw[<-L8 (v:=v) m U,<-L8 (v:=v) m r,L7,L7];rfl
      rwa[e] at this
     split
     .rename_i g;rw[zuy g.1];exact M l j an an
     .exact M j l an an
def zzc{i:Int}(h:Inv L)(a:v.length=34)(b:∀c∈v,c<4294967296)(d:0<=i)(e:i<34):wv v (lS L i) (some (v[i.toNat]?.getD 0)):=by rw[lS,if_pos ⟨d,e⟩];have:=Uw (v:=v) h (R7 i.toNat) (Xx _);rw[zoZ an a b] at this;rw[kW an];exact this
def zuz{c:Nat}(h:Inv L)(b:v.length=34)(a:c<4294967296):wv v (bf L (fg (c::aP 34))) (some c):=by have:=Uw (v:=v) h (f:=c::aP 34) ir (CQ a);rwa[DC a b] at this
def zG2{x:Int}(h:Inv L)(b:v.length=34)(g:∀c∈v,c<4294967296)(d:cD L x=true):wv v (oH L x) ((dw v L x).map oB):=by
 rw[oH,if_pos d]
 obtain⟨j,o⟩:0<=x/\x<L.length:=by simpa[cD] using d
 obtain⟨a,rfl⟩:=aay j;have e:=Sc h;obtain⟨i,f,k,l⟩:=zuz (v:=v) h b (c:=0) ag7;have p:=e.pre.length_le;have r:=zzb (v:=v) (kind:=20) (x:=(zI L).1) (y:=(a:Int)) e.inv b g ag7 (by rw[zI,f];simp[cD];exact k) (by simp[cD];omega)
 have m:dw v (zI L).2 (zI L).1=some 0:=by rw[zI,f];exact l
 rw[m,L8 e an] at r
 have n:gH 20 (some 0) (dw v L a)=(dw v L a).map oB:=by
  cases dw v L a with
  | none=>rfl
  | some w=>simp[gH,cA,oB]
 rwa[n] at r
variable {G:aK}
variable {H:ae} {b z m:Nat} {L:List Nd}
structure VS where
 L:List Nd
 p:List Int
 st:List Int
def vcs(p st:List Int)(tk:Tk):List V:=ny .i64 p++[.vs (ints .i64 st) tk]
section
variable {p st:List Int} {tk:Tk}
def Hg(a:p.length=18):(vcs p st tk).length=19:=by simp[vcs,a]
def JU{i:Nat}(a:p.length=18)(hi:i<18):((vcs p st tk).drop i).take 1=[.int .i64 (p[i]' an)]:=by rw[vcs,abH (by simp;omega),zrp,aaJ an];rfl
def Uy{i:Nat}(x:Int)(a:p.length=18)(hi:i<18):(vcs p st tk).take i++(.int .i64 x::(vcs p st tk).drop (i+1))=vcs (p.set i x) st tk:=by rw[vcs,vcs,List.take_append_of_le_length (by simp;omega),abH (by simp;omega),<-zBf .i64 p i x an];simp
def zw3(a:p.length=18):(vcs p st tk).take 1=[.int .i64 (p[0]' an)]:=JU (i:=0) a an
def zEY(a:p.length=18):(vcs p st tk).tail.take 1=[.int .i64 (p[1]' an)]:=by rw[<-abU];exact JU a an
def zEZ(x:Int)(a:p.length=18):.int .i64 x::(vcs p st tk).tail=vcs (p.set 0 x) st tk:=by rw[<-abU];exact Uy (i:=0) x a an
def zE0(x:Int)(a:p.length=18):(vcs p st tk).take 1++(.int .i64 x::(vcs p st tk).drop 2)=vcs (p.set 1 x) st tk:=Uy (i:=1) x a an
def zw4(a:p.length=18):((vcs p st tk).drop 18).take 1=[.vs (ints .i64 st) tk]:=by rw[vcs,abD (by simp[a])];rfl
def zCC(st':List Int)(a:Tk)(b:p.length=18):(vcs p st tk).take 18++(.vs (ints .i64 st') a::(vcs p st tk).drop 19)=vcs p st' a:=by rw[vcs,vcs,abB (by simp[b]),aai (by simp[b])]
def zw5(a:p.length=18):(vcs p st tk).take 19=vcs p st tk:=aae (by rw[Hg a];omega)
def zCD(n a:Nat)(h:a<n):ba n (vcs p st (.own a))=vcs p st (.own a):=by rw[ij,vcs];simp[ny,aal,V.cl,Tk.cl,h]
end
noncomputable def uM(s:VS)(x:af):Int×List Nd:=if(bg x.op).2.1=true then(s.p.getD 1 0,s.L) else bf s.L (fg (x.k::aP 34))
noncomputable def fO(s:VS)(x:af):VS :=
 if(bg x.op).2.2=true then
  ⟨(iD (uM s x).2 (bg x.op).1 (s.p.getD 0 0) (uM s x).1).2,s.p.set 0 (iD (uM s x).2 (bg x.op).1 (s.p.getD 0 0) (uM s x).1).1,
   if(bg x.op).2.1=true/\(bg x.op).1=52 then s.st++[s.p.getD 1 0] else s.st⟩
 else if x.op=0 then⟨(bf s.L (fg (x.k::aP 34))).2,s.p.set 0 (bf s.L (fg (x.k::aP 34))).1,s.st⟩
 else if x.op=1 then⟨(bf s.L (fg (x.k::aP 34))).2,s.p.set 1 (bf s.L (fg (x.k::aP 34))).1,s.st⟩
 else if x.op=32 then⟨(lS s.L (18+(x.k/4:Nat))).2,s.p.set 0 (lS s.L (18+(x.k/4:Nat))).1,s.st⟩
 else if x.op=96 then⟨s.L,s.p.set 0 (s.p.getD (2+x.k) 0),s.st⟩
 else if x.op=97 then⟨s.L,s.p.set 1 (s.p.getD (2+x.k) 0),s.st⟩
 else if x.op=2 then⟨s.L,s.p.set (2+x.k) (s.p.getD 0 0),s.st⟩
 else if x.op=3 then⟨s.L,s.p.set (2+x.k) (s.p.getD 1 0),s.st⟩
 else if x.op=132 then⟨(oH s.L (s.p.getD 0 0)).2,s.p.set 0 (oH s.L (s.p.getD 0 0)).1,s.st⟩
 else if x.op=7 then⟨s.L,(s.p.set 1 (s.p.getD 0 0)).set 0 (s.p.getD 0 0),s.st⟩
 else if x.op=135 then⟨s.L,s.p.set 0 (s.p.getD 1 0),s.st⟩
 else s
def Bk.ml{a k n:Nat}(h:Bk H b z m L)(c:H[a]?=some (some (.zone k)))(f:a≠z):Bk (H.set a (some (.zone n))) b z m L:=by
 have g:a≠b:=λe=>by rw[e,h.hb] at c;simp[zD] at c
 have i:a≠m:=λe=>by rw[e,h.hm] at c;simp at c
 refine⟨by rw[aas g];exact h.hb,by rw[aas f];exact h.hz,by rw[aas i];exact h.hm,λn d=>?_,h.ok,h.small⟩;rw[aaq] at d;rw[D3,h.shut n d];rfl
def zE1{a k:Nat}(h:Bk H b z m L)(c:H[a]?=some (some (.zone k)))(d:a≠z)(x:Option ax)(L':List Nd):dD (H.set a x) b z m L'=(dD H b z m L').set a x:=by
 have f:a≠b:=λe=>by rw[e,h.hb] at c;simp[zD] at c
 have g:a≠m:=λe=>by rw[e,h.hm] at c;simp at c
 unfold dD;rw[aby _ _ f,aby _ _ d,aby _ _ g]
def zE2{a k:Nat}(h:Bk H b z m L)(c:H[a]?=some (some (.zone k)))(d:a≠z)(L':List Nd):(dD H b z m L')[a]?=some (some (.zone k)):=by
 have f:b≠a:=λe=>by rw[<-e,h.hb] at c;simp[zD] at c
 have g:m≠a:=λe=>by rw[<-e,h.hm] at c;simp at c
 unfold dD;rw[aas g,aas (Ne.symm d),aas f];exact c
section
variable {α:Type} {H l:List α} {n:Nat} (h:H.length=n)
include h
def oT:(H++l)[n]?=l[0]?:=by subst h;exact lD H l
def rT(k:Nat):(H++l)[n+k]?=l[k]?:=by subst h;exact iC H l k
def tN(x:α):(H++l).set n x=H++l.set 0 x:=by subst h;exact zF H l x
def y8(k:Nat)(x:α):(H++l).set (n+k) x=H++l.set k x:=by subst h;exact xq H l k x
end
def zCE[eo G][dK G][aA G][ar G][bG G][aL G][cf G](s:VS)(x:af)(g:Nat)(h:Bk H b z m s.L)(tq:H[g]?=some (some (.zone s.st.length)))(ay:g≠z)(hi:Inv s.L)(hs:s.L.length<900000)
  (a:s.p.length=18) (ht:s.st.length<=1000) (hk:x.k<4294967296) (hx:mO x=true) :
  SF G 295 [.ptr b 0,.agg (vcs s.p s.st (.own g)),IV x] H (.agg (vcs (fO s x).p (fO s x).st (.own g))) ((dD H b z m (fO s x).L).set g (some (.zone (fO s x).st.length))):=by
 refine km cf.ae6 (aaj rfl) ?_;have C:=(aab.1 tq).1;have p_:=h.lb;obtain⟨Z,hZ⟩:∃Z:List V,Z=vcs (aaP 18 0) [] .full:=⟨_,rfl⟩
 have D:Z.length=19:=by rw[hZ];rfl
 have E:Z.drop 19=[]:=aai an
 have kZ:∀n,ba n Z=Z:=λn=>by rw[hZ];simp[vcs,ny,ba,V.cl]
 have eg:=K6 (G:=G) x;have fC:x.cs.length=4:=rfl;have lO:x.cs.take 4=x.cs:=rfl
 have kx:∀n,ba n x.cs=x.cs:=λn=>by simp[af.cs,ba,V.cl]
 have x0:x.cs.take 1=[.int .i64 x.op]:=rfl;have x3:(x.cs.drop 3).take 1=[.int .u32 (x.k:Int)]:=rfl
 have JV:[V.int .i64 0,.int .i64 0,.int .i64 0,.int .i64 0,.int .i64 0,.int .i64 0,.int .i64 0,.int .i64 0,.int .i64 0,.int .i64 0,.int .i64 0,.int .i64 0,.int .i64 0,.int .i64 0,.int .i64 0,.int .i64 0,.int .i64 0,.int .i64 0,.vs [] .full]=Z:=by rw[hZ];rfl
 obtain⟨W,B⟩:∃W:List Int->List Int->List V,∀p st,W p st=vcs p st (.own g):=⟨_,λ_ _=>rfl⟩
 have f:∀p st,p.length=18->(W p st).length=19:=λp st a=>by rw[B];exact Hg a
 have F:∀p st,p.length=18->(W p st).take 19=W p st:=λp st a=>by rw[B];exact zw5 a
 have A:∀p st n,g<n->ba n (W p st)=W p st:=λp st n J=>by rw[B];exact zCD n g J
 have S:∀p st,(a:p.length=18)->(W p st).take 1=[.int .i64 (p[0]' an)]:=λp st a=>by rw[B];exact zw3 a
 have W1:∀p st,(a:p.length=18)->(W p st).tail.take 1=[.int .i64 (p[1]' an)]:=λp st a=>by rw[B];exact zEY a
 have Ws:∀p st,p.length=18->((W p st).drop 18).take 1=[.vs (ints .i64 st) (.own g)]:=λp st a=>by rw[B];exact zw4 a
 have T:∀p st (v:Int),p.length=18->.int .i64 v::(W p st).tail=W (p.set 0 v) st:=λp st v a=>by rw[B,B];exact zEZ v a
 have S1:∀p st (v:Int),p.length=18->(W p st).take 1++(.int .i64 v::(W p st).drop 2)=W (p.set 1 v) st:=λp st v a=>by rw[B,B];exact zE0 v a
 have Ss:∀p st U,p.length=18->(W p st).take 18++(.vs (ints .i64 U) (.own g)::(W p st).drop 19)=W p U:=λp st U a=>by rw[B,B];exact zCC U _ a
 have Wg:∀p st (k:Nat),(a:p.length=18)->(hk:k<16)->((W p st).drop (2+k)).take 1=[.int .i64 (p[2+k]' an)]:=λp st k a hk=>by rw[B];exact JU a an
 have Wk:∀p st (k:Nat) (v:Int),p.length=18->k<16->(W p st).take (2+k)++(.int .i64 v::(W p st).drop (2+k+1))=W (p.set (2+k) v) st:=λp st k v a hk=>by rw[B,B];exact Uy v a an
 have ha:∀v:Int,V.int .i64 (s.p[0]' an)::.int .i64 v::(W s.p s.st).drop 2=W (s.p.set 1 v) s.st:=λv=>by
  have:=S1 s.p s.st v a;rw[S _ _ a] at this;exact this
 have g0:s.p.getD 0 0=s.p[0]'(by omega):=by rw[aag,kW an];rfl
 have g1:s.p.getD 1 0=s.p[1]'(by omega):=by rw[aag,kW an];rfl
 have u:∀(i:Nat) (v:Int),(s.p.set i v).length=18:=λi v=>by rw[aaq];exact a
 have bR:∀(H':ae) (L':List Nd) (C':List V),H'.length=H.length->Bk H' b z m L'->(∀n,g<n->ba n C'=C')->Bk (H'++[some (.cells C'),some (.cells x.cs),some (.cells Z)]) b z m L':=λH' L' C' hl hB hc =>
  hB.rB λn J=>by simp at J;simp[ax.cl,kx,kZ,hc n an]
 have L9:∀(L':List Nd),(dD H b z m L').set g (some (.zone s.st.length))=dD H b z m L':=λL'=>D0 (zE2 h tq ay L');rw[<-B,<-B];simp[IV,fC,lO,JV,az,leFn];refine au eg ?_
 cases I:(bg x.op).2.2 with
 | true =>
  cases rD:(bg x.op).2.1 with
  | false =>
   obtain⟨q,j⟩:∃q,q=bf s.L (fg (x.k::aP 34)):=⟨_,rfl⟩
   have jN:uM s x=q:=by rw[uM,rD,j];rfl
   obtain⟨r,hr⟩:=bb (iD q.2 (bg x.op).1 s.p[0] q.1)
   have l:fO s x=⟨r.2,s.p.set 0 r.1,s.st⟩:=by rw[fO,if_pos I,jN,g0,<-hr,rD];rfl
   have O:Ext s.L q.2 1:=by rw[j];exact(wK hi (zH ir (CQ hk) _)).1
   have l1:=O.len;obtain⟨H1,LF⟩:=bb (dD H b z m q.2)
   have n1:H1.length=H.length:=by rw[LF,sJ]
   have B1:Bk H1 b z m q.2:=by rw[LF];exact h.to O.inv an
   have c1:=KE (G:=G) x.k (bR H s.L (W s.p s.st) rfl h (λn J=>A _ _ n J)) an;rw[BF,<-j,h.cu,<-LF] at c1;obtain⟨H2,c⟩:=bb (dD H b z m r.2)
   have o:H2.length=H.length:=by rw[c,sJ]
   have w:=R9 (G:=G) (bg x.op).1 s.p[0] q.1 (bR H1 q.2 (W s.p s.st) n1 B1 (λn J=>A _ _ n J)) O.inv an;rw[BF,<-hr,B1.cu,show dD H1 b z m r.2=H2 by rw[LF,c,h.mc]] at w
   have t:∀d,ak H.length (H2++d)=H2:=λd=>by rw[c];exact h.back _ d
   have K:H2.set g (some (.zone s.st.length))=H2:=by rw[c];exact L9 _
   rw[l];simp only[<-c];simp[f _ _ a,W1 _ _ a,fC,x3,az,leFn];refine cN c1 ?_;simp[f _ _ a,S _ _ a,az,leFn,n1];refine cN w ?_
   simp[f _ _ a,f _ _ (u _ _),F _ _ (u _ _),T _ _ _ a,D,E,az,leFn,o,tN o,y8 o,t,A _ _ _ C,K]
  | true =>
   obtain⟨r,hr⟩:=bb (iD s.L (bg x.op).1 s.p[0] s.p[1])
   by_cases JW:(bg x.op).1=52
   .have kG:=hr;rw[JW] at kG
    have l:fO s x=⟨r.2,s.p.set 0 r.1,s.st++[s.p[1]]⟩:=by rw[fO,if_pos I];simp only[uM,rD,if_true,g0,g1,JW,<-kG,and_self]
    obtain⟨Hz,Uz⟩:=bb (H.set g (some (.zone (s.st.length+1))))
    have UA:Hz.length=H.length:=by rw[Uz,aaq]
    have Bz:Bk Hz b z m s.L:=by rw[Uz];exact h.ml tq ay
    obtain⟨H2,c⟩:=bb (dD Hz b z m r.2)
    have o:H2.length=H.length:=by rw[c,sJ,UA]
    have B4:Bk (Hz++[some (.cells (W s.p (s.st++[s.p[1]]))),some (.cells x.cs),some (.cells Z),none]) b z m s.L:=Bz.rB λn J=>by simp at J;simp[ax.cl,kx,kZ,A _ _ n (show g<n by omega)]
    have w:=R9 (G:=G) (bg x.op).1 s.p[0] s.p[1] B4 hi an;rw[BF,<-hr,Bz.cu,<-c] at w;have h8:((s.st.length+1)*8<=140737488355328)=True:=ag5
    have t:∀d,ak H.length (H2++d)=H2:=λd=>by rw[c,<-UA];exact Bz.back _ d
    have K:(dD H b z m r.2).set g (some (.zone (s.st.length+1)))=H2:=by rw[c,Uz,zE1 h tq ay]
    have gz:∀d,(H++d)[g]?=some (some (.zone s.st.length)):=λd=>by rw[aaf C];exact tq
    have sz:∀(y:Option ax) (d:ae),(H++d).set g y=H.set g y++d:=λy d=>aat _ _ C;have hb:((bg x.op).1==52)=true:=DT JW;have CW:∀st:List Int,True:=λ_=>trivial;rw[l];simp[f _ _ a,S _ _ a,W1 _ _ a,Ws _ _ a,Ss _ _ _ a,az,leFn,hb,gz,sz,<-Uz,h8,UA,tN UA];refine cN w ?_;simp[f _ _ a,f _ _ (u _ _),F _ _ (u _ _),T _ _ _ a,D,E,az,leFn,o,tN o,y8 o,t,A _ _ _ C,K]
   .have l:fO s x=⟨r.2,s.p.set 0 r.1,s.st⟩:=by rw[fO,if_pos I];simp only[uM,rD,if_true,g0,g1,<-hr,JW,and_false,if_false]
    have hb:((bg x.op).1==52)=false:=aF JW;obtain⟨H2,c⟩:=bb (dD H b z m r.2)
    have o:H2.length=H.length:=by rw[c,sJ]
    have w:=R9 (G:=G) (bg x.op).1 s.p[0] s.p[1] (bR H s.L (W s.p s.st) rfl h (λn J=>A _ _ n J)) hi an;rw[BF,<-hr,h.cu,<-c] at w
    have t:∀d,ak H.length (H2++d)=H2:=λd=>by rw[c];exact h.back _ d
    have K:H2.set g (some (.zone s.st.length))=H2:=by rw[c];exact L9 _
    rw[l];simp only[<-c];simp[f _ _ a,S _ _ a,W1 _ _ a,az,leFn,hb];refine cN w ?_
    simp[f _ _ a,f _ _ (u _ _),F _ _ (u _ _),T _ _ _ a,D,E,az,leFn,o,tN o,y8 o,t,A _ _ _ C,K]
 | false =>
  have ix:x.op=96\/x.op=97\/x.op=2\/x.op=3->x.k<16:=λho=>by
   simp only[mO,aak] at hx;have h2:=hx.2
   rcases ho with ho|ho|ho|ho<;>simp[kI,ho] at h2<;>exact h2
  have dG:=h.shut.back;have L_:eP .i64 (x.k:Int)=(x.k:Int):=HX an;have mY:=h.gn;have Hi:H.set g (some (.zone s.st.length))=H:=D0 tq;have UB:=bR H s.L (W s.p s.st) rfl h (λn J=>A _ _ n J);simp[fC,x0,x3,az,leFn]
  by_cases M:x.op=0
  .have l:∀q,q=bf s.L (fg (x.k::aP 34))->fO s x=⟨q.2,s.p.set 0 q.1,s.st⟩:=λq j=>by rw[fO,if_neg (by simp[I]),if_pos M,<-j]
   obtain⟨q,j⟩:∃q,q=bf s.L (fg (x.k::aP 34)):=⟨_,rfl⟩
   have O:Ext s.L q.2 3:=by rw[j];exact(wK hi (zH ir (CQ hk) _)).1.mono an
   have l1:=O.len;obtain⟨H2,c⟩:=bb (dD H b z m q.2)
   have o:H2.length=H.length:=by rw[c,sJ]
   have w:=KE (G:=G) x.k UB an;rw[BF,<-j,h.cu,<-c] at w
   have t:∀d,ak H.length (H2++d)=H2:=λd=>by rw[c];exact h.back _ d
   have K:H2.set g (some (.zone s.st.length))=H2:=by rw[c];exact L9 _
   rw[l q j];simp only[<-c];simp(disch:=omega)[fC,x3,leFn,iC,M];refine cN w ?_;simp[f _ _ a,f _ _ (u _ _),F _ _ (u _ _),T _ _ _ a,D,E,az,leFn,o,tN o,y8 o,t,A _ _ _ C,K]
  have b0:(x.op==0)=false:=aF M
  by_cases N:x.op=1
  .have l:∀q,q=bf s.L (fg (x.k::aP 34))->fO s x=⟨q.2,s.p.set 1 q.1,s.st⟩:=λq j=>by rw[fO,if_neg (by simp[I]),if_neg M,if_pos N,<-j]
   obtain⟨q,j⟩:∃q,q=bf s.L (fg (x.k::aP 34)):=⟨_,rfl⟩
   have O:Ext s.L q.2 3:=by rw[j];exact(wK hi (zH ir (CQ hk) _)).1.mono an
   have l1:=O.len;obtain⟨H2,c⟩:=bb (dD H b z m q.2)
   have o:H2.length=H.length:=by rw[c,sJ]
   have w:=KE (G:=G) x.k UB an;rw[BF,<-j,h.cu,<-c] at w
   have t:∀d,ak H.length (H2++d)=H2:=λd=>by rw[c];exact h.back _ d
   have K:H2.set g (some (.zone s.st.length))=H2:=by rw[c];exact L9 _
   rw[l q j];simp only[<-c];simp(disch:=omega)[fC,x3,leFn,iC,N];refine cN w ?_;simp[f _ _ a,f _ _ (u _ _),F _ _ (u _ _),S _ _ a,ha,D,E,az,leFn,o,tN o,y8 o,t,A _ _ _ C,K]
  have b1:(x.op==1)=false:=aF N
  by_cases P:x.op=32
  .have l:∀q,q=lS s.L (18+(x.k/4:Nat))->fO s x=⟨q.2,s.p.set 0 q.1,s.st⟩:=λq j=>by rw[fO,if_neg (by simp[I]),if_neg M,if_neg N,if_pos P,<-j]
   have qd:ku .i64 (x.k:Int) 4=((x.k/4:Nat):Int):=zMC (b:=4) an;have X:aD .i64 18 ((x.k/4:Nat):Int)=18+((x.k/4:Nat):Int):=eG an an;obtain⟨q,j⟩:∃q,q=lS s.L (18+(x.k/4:Nat)):=⟨_,rfl⟩
   have O:Ext s.L q.2 3:=by rw[j];exact(K_ hi).mono an
   have l1:=O.len;obtain⟨H2,c⟩:=bb (dD H b z m q.2)
   have o:H2.length=H.length:=by rw[c,sJ]
   have w:=zyh (G:=G) (18+((x.k/4:Nat):Int)) UB an;rw[BF,<-j,h.cu,<-c] at w
   have t:∀d,ak H.length (H2++d)=H2:=λd=>by rw[c];exact h.back _ d
   have K:H2.set g (some (.zone s.st.length))=H2:=by rw[c];exact L9 _
   rw[l q j];simp only[<-c];simp(disch:=omega)[P,L_,qd,X,-acg];refine cN w ?_;simp[f _ _ a,f _ _ (u _ _),F _ _ (u _ _),T _ _ _ a,D,E,az,leFn,o,tN o,y8 o,t,A _ _ _ C,K]
  have he:(x.op==32)=false:=aF P
  have hf:∀(p':List Int),p'.length=18->fO s x=⟨s.L,p',s.st⟩->V.agg (W p' s.st)=V.agg (vcs (fO s x).p (fO s x).st (.own g))/\(dD H b z m (fO s x).L).set g (some (.zone (fO s x).st.length))=H:=λp' il e=>by
   rw[e];refine⟨by rw[B],?_⟩;show(dD H b z m s.L).set g (some (.zone s.st.length))=H;rw[mY,Hi]
  by_cases R:x.op=96
  .have Q:=ix an
   have X:aD .i64 2 (x.k:Int)=((2+x.k:Nat):Int):=by rw[eG an an];omega
   have gk:s.p.getD (2+x.k) 0=s.p[2+x.k]'(by omega):=by rw[aag,kW an];rfl
   have l:fO s x=⟨s.L,s.p.set 0 (s.p[2+x.k]'(by have:=ix an;omega)),s.st⟩:=by rw[fO,if_neg (by simp[I]),if_neg M,if_neg N,if_neg P,if_pos R,gk]
   have Gr:=Wg s.p s.st x.k a Q;have xH:=λv=>Wk s.p s.st x.k v a Q;rw[l];simp(disch:=omega)[f _ _ a,f _ _ (u _ _),F _ _ (u _ _),T _ _ _ a,D,E,az,leFn,lD,iC,R,L_,X,bC,nO,Gr,-aad,mY,Hi,dG,A _ _ _ C]
  have hg:(x.op==96)=false:=aF R
  by_cases Y:x.op=97
  .have Q:=ix an
   have X:aD .i64 2 (x.k:Int)=((2+x.k:Nat):Int):=by rw[eG an an];omega
   have gk:s.p.getD (2+x.k) 0=s.p[2+x.k]'(by omega):=by rw[aag,kW an];rfl
   have l:fO s x=⟨s.L,s.p.set 1 (s.p[2+x.k]'(by have:=ix an;omega)),s.st⟩:=by rw[fO,if_neg (by simp[I]),if_neg M,if_neg N,if_neg P,if_neg R,if_pos Y,gk]
   have Gr:=Wg s.p s.st x.k a Q;have xH:=λv=>Wk s.p s.st x.k v a Q;rw[l];simp(disch:=omega)[f _ _ a,f _ _ (u _ _),F _ _ (u _ _),S _ _ a,ha,D,E,az,leFn,lD,iC,Y,L_,X,bC,nO,Gr,-aad,mY,Hi,dG,A _ _ _ C]
  have hh:(x.op==97)=false:=aF Y
  by_cases o2:x.op=2
  .have Q:=ix an
   have X:aD .i64 2 (x.k:Int)=((2+x.k:Nat):Int):=by rw[eG an an];omega
   have gk:s.p.getD (2+x.k) 0=s.p[2+x.k]'(by omega):=by rw[aag,kW an];rfl
   have l:fO s x=⟨s.L,s.p.set (2+x.k) s.p[0],s.st⟩:=by rw[fO,if_neg (by simp[I]),if_neg M,if_neg N,if_neg P,if_neg R,if_neg Y,if_pos o2,g0]
   have Gr:=Wg s.p s.st x.k a Q;have xH:=λv=>Wk s.p s.st x.k v a Q;rw[l];simp(disch:=omega)[f _ _ a,f _ _ (u _ _),F _ _ (u _ _),S _ _ a,D,E,az,leFn,lD,iC,o2,L_,X,bC,nO,xH,-aad,mY,Hi,dG,A _ _ _ C]
  have b2:(x.op==2)=false:=aF o2
  by_cases o3:x.op=3
  .have Q:=ix an
   have X:aD .i64 2 (x.k:Int)=((2+x.k:Nat):Int):=by rw[eG an an];omega
   have gk:s.p.getD (2+x.k) 0=s.p[2+x.k]'(by omega):=by rw[aag,kW an];rfl
   have l:fO s x=⟨s.L,s.p.set (2+x.k) s.p[1],s.st⟩:=by rw[fO,if_neg (by simp[I]),if_neg M,if_neg N,if_neg P,if_neg R,if_neg Y,if_neg o2,if_pos o3,g1]
   have Gr:=Wg s.p s.st x.k a Q;have xH:=λv=>Wk s.p s.st x.k v a Q;rw[l];simp(disch:=omega)[f _ _ a,f _ _ (u _ _),F _ _ (u _ _),W1 _ _ a,D,E,az,leFn,lD,iC,o3,L_,X,bC,nO,xH,-aad,mY,Hi,dG,A _ _ _ C]
  have b3:(x.op==3)=false:=aF o3
  by_cases uO:x.op=132
  .have l:∀q,q=oH s.L s.p[0]->fO s x=⟨q.2,s.p.set 0 q.1,s.st⟩:=λq j=>by rw[fO,if_neg (by simp[I]),if_neg M,if_neg N,if_neg P,if_neg R,if_neg Y,if_neg o2,if_neg o3,if_pos uO,g0,<-j]
   obtain⟨q,j⟩:=bb (oH s.L s.p[0])
   have O:Ext s.L q.2 3:=by rw[j];exact Y2 hi
   have l1:=O.len;obtain⟨H2,c⟩:=bb (dD H b z m q.2)
   have o:H2.length=H.length:=by rw[c,sJ]
   have w:=zGc (G:=G) s.p[0] UB hi an;rw[BF,<-j,h.cu,<-c] at w
   have t:∀d,ak H.length (H2++d)=H2:=λd=>by rw[c];exact h.back _ d
   have K:H2.set g (some (.zone s.st.length))=H2:=by rw[c];exact L9 _
   rw[l q j];simp only[<-c];simp(disch:=omega)[f _ _ a,S _ _ a,az,leFn,lD,uO];refine cN w ?_;simp[f _ _ a,f _ _ (u _ _),F _ _ (u _ _),T _ _ _ a,D,E,az,leFn,o,tN o,y8 o,t,A _ _ _ C,K]
  have hj:(x.op==132)=false:=aF uO
  by_cases o7:x.op=7
  .have l:fO s x=⟨s.L,(s.p.set 1 s.p[0]).set 0 s.p[0],s.st⟩:=by rw[fO,if_neg (by simp[I]),if_neg M,if_neg N,if_neg P,if_neg R,if_neg Y,if_neg o2,if_neg o3,if_neg uO,if_pos o7,g0]
   have vE:(s.p.set 1 s.p[0]).length=18:=u _ _;have w1:=W1 (s.p.set 1 s.p[0]) s.st vE;have w0:=T (s.p.set 1 s.p[0]) s.st s.p[0] vE
   have wH:((s.p.set 1 s.p[0]).set 0 s.p[0]).length=18:=by rw[aaq];exact vE
   have w2:=f ((s.p.set 1 s.p[0]).set 0 s.p[0]) s.st wH;have w3:=F ((s.p.set 1 s.p[0]).set 0 s.p[0]) s.st wH;simp at w1;rw[l];simp(disch:=omega)[f _ _ a,f _ _ (u _ _),S _ _ a,ha,D,E,az,leFn,lD,iC,o7,mY,Hi,dG,A _ _ _ C,w0,w1,w2,w3]
  have b7:(x.op==7)=false:=aF o7
  by_cases x_:x.op=135
  .have l:fO s x=⟨s.L,s.p.set 0 s.p[1],s.st⟩:=by rw[fO,if_neg (by simp[I]),if_neg M,if_neg N,if_neg P,if_neg R,if_neg Y,if_neg o2,if_neg o3,if_neg uO,if_neg o7,if_pos x_,g1]
   rw[l];simp(disch:=omega)[f _ _ a,f _ _ (u _ _),F _ _ (u _ _),W1 _ _ a,T _ _ _ a,D,E,az,leFn,lD,iC,x_,mY,Hi,dG,A _ _ _ C]
  have hm:(x.op==135)=false:=aF x_
  have l:fO s x=s:=by rw[fO,if_neg (by simp[I]),if_neg M,if_neg N,if_neg P,if_neg R,if_neg Y,if_neg o2,if_neg o3,if_neg uO,if_neg o7,if_neg x_]
  rw[l];simp(disch:=omega)[f _ _ a,F _ _ a,D,E,leFn,lD,iC,b0,b1,he,hg,hh,b2,b3,hj,b7,hm,L_,mY,Hi,dG,A _ _ _ C]
open Go Go.RowKit
variable {G:aK}
variable {H:ae} {b z m:Nat} {L:List Nd}
noncomputable def Fh(s:VS)(i:Nat):VS:=⟨(lS s.L i).2,s.p.set i (lS s.L i).1,s.st⟩
noncomputable def kp(L:List Nd)(n:Nat):VS:=(aaZ n).foldl Fh ⟨L,aaP 18 0,[]⟩
def UC(L:List Nd)(n:Nat):kp L (n+1)=Fh (kp L n) n:=by simp[kp,List.range_succ]
noncomputable def aQ(L:List Nd)(w:List af):VS:=w.foldl fO (kp L 18)
def zCF(L:List Nd)(w:List af)(x:af):aQ L (w++[x])=fO (aQ L w) x:=by simp[aQ]
structure Fi (L:List Nd) (s:VS) (k n:Nat):Prop where
 ext:Ext L s.L k
 len:s.p.length=18
 st:s.st.length<=n
def zw6{s:VS}{k n:Nat}(h:Fi L s k n){x:af}(g:x.k<4294967296):Fi L (fO s x) (k+3) (n+1):=by
 have hi:=h.ext.inv;have a:∀p:List Int,p.length=18->Fi L ⟨s.L,p,s.st⟩ (k+3) (n+1):=λp c=>⟨h.ext.mono an,c,by have:=h.st;show s.st.length<=_;omega⟩;have b:∀(q:Int×List Nd) (p:List Int) (st:List Int),Ext s.L q.2 3->p.length=18->st.length<=n+1->Fi L ⟨q.2,p,st⟩ (k+3) (n+1):=λq p st e c i=>⟨h.ext.trans e,c,i⟩;have j:=h.st;have d:Ext s.L (bf s.L (fg (x.k::aP 34))).2 1:=(wK hi (zH ir (CQ g) _)).1
 rw[fO];split
 .have f:Ext s.L (uM s x).2 1:=by
   rw[uM];split
   .exact .refl hi 1
   .exact d
  refine b (iD (uM s x).2 (bg x.op).1 (s.p.getD 0 0) (uM s x).1) _ _ (f.trans (Y1 f.inv)) (by rw[aaq];exact h.len) ?_;split
  .simp;omega
  .omega
 .split
  .exact b _ _ _ (d.mono an) (by rw[aaq];exact h.len) an
  .split
   .exact b _ _ _ (d.mono an) (by rw[aaq];exact h.len) an
   .split
    .exact b _ _ _ ((K_ hi).mono an) (by rw[aaq];exact h.len) an
    .split
     .exact a _ (by rw[aaq];exact h.len)
     .split
      .exact a _ (by rw[aaq];exact h.len)
      .split
       .exact a _ (by rw[aaq];exact h.len)
       .split
        .exact a _ (by rw[aaq];exact h.len)
        .split
         .exact b _ _ _ (Y2 hi) (by rw[aaq];exact h.len) an
         .split
          .exact a _ (by rw[aaq,aaq];exact h.len)
          .split
           .exact a _ (by rw[aaq];exact h.len)
           .exact a _ h.len
def Ma(h:Inv L):∀n,Fi L (kp L n) n 0
 | 0=>⟨.refl h 0,by simp[kp],by simp[kp]⟩
 | n+1=>by
  have a:=Ma h n;rw[UC];exact⟨a.ext.trans (K_ a.ext.inv),by show(List.set _ _ _).length=18;rw[aaq];exact a.len,a.st⟩
def zw7(L:List Nd):∀n,(kp L n).st=[]
 | 0=>by simp[kp]
 | n+1=>by rw[UC];exact zw7 L n
def Cp(h:Inv L):∀(w:List af),(∀x∈w,x.k<4294967296)->Fi L (aQ L w) (18+3*w.length) w.length:=λw=>by
 have:∀(w:List af) (s:VS) (k n:Nat),Fi L s k n->(∀x∈w,x.k<4294967296)->Fi L (w.foldl fO s) (k+3*w.length) (n+w.length):=λw=>by
  induction w with
  | nil=>intro s k n h _;exact h
  | cons x w b =>
   intro s k n h a;have:=b (fO s x) (k+3) (n+1) (zw6 h (a x ir)) λy c=>a y (by simp[c])
   have d:k+3+3*w.length=k+3*(x::w).length:=by simp;omega
   have e:n+1+w.length=n+(x::w).length:=by simp;omega
   rw[d,e] at this;exact this
 intro a;have:=this w (kp L 18) 18 0 (Ma h 18) a;rwa[aa1] at this
def zNa[aA G][aB G][aO G][cf G](w:List af)(h:Bk H b z m L)(c:w.length<=maxLen)(d:∀x∈w,x.k<4294967296)(e:aY w=false) :
  SF G 296 [.ptr b 0,FL w] H (.a_ [.agg (vcs (aaP 18 0) [] .full),.bool false]) H:=by
 refine km cf.ae7 (aaj rfl) ?_;have f:=h.shut.back;have a:=BE (G:=G) w c d;simp[FL] at a |-;refine au a ?_;simp[e,f,vcs,ny]
def zNb[eo G][dK G][aA G][aB G][aO G][ar G][bG G][aL G][cf G](w:List af)(h:Bk H b z m L)(hi:Inv L)(hs:L.length<=800000)(hf:w.length<=maxLen)(O:∀x∈w,x.k<4294967296)(y:aY w=true) :
  SF G 296 [.ptr b 0,FL w] H (.a_ [.agg (vcs (aQ L w).p (aQ L w).st .no),.bool true]) (dD H b z m (aQ L w).L):=by
 refine km cf.ae7 (aaj rfl) ?_;have uo:=h.lz;have p_:=h.lb;have mY:=h.gn;have I:=BE (G:=G) w hf O
 have qB:w.length<=32:=by simp only[aY,aak,decide_eq_true_eq] at y;exact y.1
 have P:∀x∈w,mO x=true:=by simp only[aY,aak,ach] at y;exact y.2
 obtain⟨Z,A⟩:∃Z:List V,Z=vcs (aaP 18 0) [] .full:=⟨_,rfl⟩
 have lZ:Z.length=19:=by rw[A];rfl
 have eB:Z.drop 19=[]:=aai an
 have kZ:∀n,ba n Z=Z:=λn=>by rw[A];simp[vcs,ny,ba,V.cl]
 have Q:Z[18]?=some (.vs [] .full):=by rw[A];rfl
 have R:=(aab.1 Q).2
 have JV:[V.int .i64 0,.int .i64 0,.int .i64 0,.int .i64 0,.int .i64 0,.int .i64 0,.int .i64 0,.int .i64 0,.int .i64 0,.int .i64 0,.int .i64 0,.int .i64 0,.int .i64 0,.int .i64 0,.int .i64 0,.int .i64 0,.int .i64 0,.int .i64 0,.vs [] .full]=Z:=by rw[A];rfl
 obtain⟨d,J⟩:=bb (H.length+2);obtain⟨W,e⟩:∃W:List Int->List Int->List V,∀p st,W p st=vcs p st (.own d):=⟨_,λ_ _=>rfl⟩
 have l:∀p st,p.length=18->(W p st).length=19:=λp st B=>by rw[e];exact Hg B
 have S:∀p st,p.length=18->(W p st).take 19=W p st:=λp st B=>by rw[e];exact zw5 B
 have Wc:∀p st n,d<n->ba n (W p st)=W p st:=λp st n U=>by rw[e];exact zCD n d U
 have Wd:∀p st,p.length=18->(W p st).drop 19=[]:=λp st B=>aai (by rw[l _ _ B];omega)
 have Wn:∀p st,ba H.length (W p st)=vcs p st .no:=λp st=>by
  rw[e,ij,vcs,vcs,J];simp[ny,aal,V.cl,Tk.cl]
 have X:Z.set 18 (.vs [] (.own d))=W (aaP 18 0) []:=by rw[A,e];rfl
 obtain⟨t,u⟩:∃t:VS->ae,∀s,t s=dD H b z m s.L++[some (.cells Z),some (.cells (W s.p s.st)),some (.zone s.st.length)]:=⟨_,λ_=>rfl⟩
 have bl:∀s,(t s).length=H.length+3:=λs=>by rw[u];simp[sJ]
 have Y:∀(s:VS) (r:ae),Inv s.L->s.L.length<=1000000->(∀n,r.map (aau (ax.cl n))=r)->Bk (dD H b z m s.L++some (.cells Z)::some (.cells (W s.p s.st))::some (.zone s.st.length)::r) b z m s.L:=λs r qL v I =>
  (h.to qL v).rB λn U=>by
   simp[sJ] at U;simp only[aa2,ab3,ax.cl,kZ,Wc s.p s.st n an,I n]
 have C:∀(s:VS) (r:ae),Inv s.L->s.L.length<=1000000->ak (H.length+3) (dD H b z m s.L++some (.cells Z)::some (.cells (W s.p s.st))::some (.zone s.st.length)::r)=t s:=λs r qL v=>by
  have:=(Y s [] qL v λn=>rfl).shut.back r;simp[sJ] at this;rw[u];exact this
 have f:∀L',(dD H b z m L').length=H.length:=λL'=>sJ _ _ _ _ _;have g0:∀(L':List Nd) (r:ae),(dD H b z m L'++r)[H.length]?=r[0]?:=λL' r=>oT (f L');have D:∀(L':List Nd) (r:ae) (k:Nat),(dD H b z m L'++r)[H.length+k]?=r[k]?:=λL' r k=>rT (f L') k;have K:∀(L':List Nd) (r:ae) (k:Nat) (x:Option ax),(dD H b z m L'++r).set (H.length+k) x=dD H b z m L'++r.set k x:=λL' r k x=>y8 (f L') k x;have s0:∀(L':List Nd) (r:ae) (x:Option ax),(dD H b z m L'++r).set H.length x=dD H b z m L'++r.set 0 x:=λL' r x=>tN (f L') x
 have ha:∀L' r,ak H.length (dD H b z m L'++r)=dD H b z m L':=λL' r=>h.back L' r;have M:(b<H.length+3)=True:=ag5;simp[FL] at I |-;refine au I ?_;simp[y,JV,lZ,iC,R,<-J,X];have V1:=Ma hi;refine aM 18 (λi=>[(0,.ptr b 0),(1,.vs (IL w) .no),(4,.ptr H.length 0),(6,.ptr (H.length+1) 0),(18,.int .i64 i)]) (λi=>t (kp L i)) (λ_=>True) ?_ ?_
 .have:=C (kp L 0) [] hi (by show L.length<=_;omega);simp[kp,mY] at this;simp[aw,kp,M,this]
 .intro i he _;have a:=V1 i;have hg:=a.ext.len
  by_cases ah:i<18
  .have hB:=Y (kp L i) [] a.ext.inv an λn=>rfl;obtain⟨q,hq⟩:=bb (lS (kp L i).L i)
   have oZ:kp L (i+1)=⟨q.2,(kp L i).p.set i q.1,(kp L i).st⟩:=by rw[UC,Fh,<-hq]
   have E:=zyh (G:=G) (i:Int) hB an;rw[BF,<-hq,(h.to a.ext.inv an).cu,h.mc] at E
   have e1:Ext (kp L i).L q.2 1:=by rw[hq];exact K_ a.ext.inv
   have l1:=e1.len;have N:=C ⟨q.2,(kp L i).p.set i q.1,(kp L i).st⟩ [] e1.inv (by show q.2.length<=_;omega);simp only at N;have wl:=l (kp L i).p (kp L i).st a.len;have ws:=Uy (i:=i) (p:=(kp L i).p) (st:=(kp L i).st) (tk:=.own d) q.1 a.len ah;rw[<-e,<-e] at ws;have Qq:((i:Int)<18)=True:=ag5;have tb:=C (kp L i) [] a.ext.inv an;rw[u];simp(disch:=omega)[Qq];refine cN E ?_
   simp(disch:=omega)[D,K,f,ah,Qq,az,wl,ws,aw,M,N,oZ,bD,-aad]
  .obtain rfl:i=18:=by omega
   have wt:=S (kp L 18).p (kp L 18).st a.len
   have hb:(W (kp L 18).p (kp L 18).st)[18]?=some (.vs (ints .i64 (kp L 18).st) (.own d)):=by rw[e,vcs,abj (by simp[a.len])];simp[a.len]
   have hc:=(aab.1 hb).2;rw[u];simp[f,hc,l _ _ a.len];obtain⟨T,F⟩:∃T:Nat->VS,∀j,T j=aQ L (w.take j):=⟨_,λ_=>rfl⟩
   have T0:T 0=kp L 18:=by rw[F,List.take_zero,aQ,List.foldl_nil]
   have TN:T w.length=aQ L w:=by rw[F,aaO]
   have Tok:∀j,Fi L (T j) (18+3*32) 32:=λj=>by
    rw[F];have:=Cp hi (w.take j) λx o=>O x (List.mem_of_mem_take o);exact⟨this.ext.mono (by simp;omega),this.len,aca this.st (by simp;omega)⟩
   have Ts:∀(j:Nat) (x:af),w[j]?=some x->T (j+1)=fO (T j) x:=λj x o=>by rw[F,F,aaL,o];exact zCF _ _ _
   refine aM w.length (λj=>[(0,.ptr b 0),(4,.ptr H.length 0),(6,.ptr (H.length+1) 0),(28,.vs (IL w) .no),(29,.int .i64 w.length),(30,.int .i64 j)]) (λj=>t (T j)) (λ_=>True) ?_ ?_
   .have:=C (kp L 18) [] a.ext.inv an;simp[aw,f,M,this,T0]
   intro j hj _;have c:=Tok j;have lT:=c.ext.len;have sT:=c.st
   by_cases wT:j<w.length
   .obtain⟨x,o⟩:∃x,w[j]?=some x:=⟨_,kW wT⟩;have mw:=aaA o;have EW:x.cs.length=4:=rfl;have lO:x.cs.take 4=x.cs:=rfl
    have gx:(IL w)[j]?=some x.cs:=by simp[o]
    have hh:=(aab.1 gx).2;have ji:((j:Int)<(w.length:Int))=True:=ag5
    have hB:=Y (T j) [some (.cells x.cs)] c.ext.inv an λn=>by simp[ax.cl,af.cs,ba,V.cl]
    have nK:(dD H b z m (T j).L++[some (.cells Z),some (.cells (W (T j).p (T j).st)),some (.zone (T j).st.length),some (.cells x.cs)])[d]?=some (some (.zone (T j).st.length)):=by rw[J,D];rfl
    have E:=zCE (G:=G) (T j) x d hB nK an c.ext.inv an c.len an (O x mw) (P x mw);obtain⟨s',v⟩:=bb (fO (T j) x);rw[<-v,<-e,<-e,(h.to c.ext.inv an).cu,h.mc,J,K] at E
    have jG:T (j+1)=s':=by rw[v];exact Ts j x o
    have g:=Tok (j+1);rw[jG] at g;have hl:=g.ext.len;have N:=C s' [some (.cells x.cs)] g.ext.inv an;rw[u];simp(disch:=omega)[ji,gx,EW,lO,D,K,f,leFn,l _ _ c.len,S _ _ c.len];refine cN E ?_;simp(disch:=omega)[D,K,f,l _ _ c.len,l _ _ g.len,Wd _ _ c.len,aw,M,N,jG,bD,wT,-aad]
   .obtain rfl:j=w.length:=by omega
    rw[u];have g:=c;rw[TN] at g;simp(disch:=omega)[TN,g0,D,s0,f,leFn,l _ _ g.len,S _ _ g.len,lZ,eB,ha,Wn]
def zuA[eo G][dK G][aA G][aB G][bV G][du G][aO G][cV G](w:List af)(s:St)(d:Da)(F:w.length<=maxLen)(g:∀x∈w,x.k<4294967296)(h:s.ok)(hd:d.ok)(j:aY w=true) :
  FP G 292 [FL w,SV s,DV d] (.a_ [SV (cd d w s).1,.int .i64 ((cd d w s).2:Nat)]):=by
 refine bt cV.ae3 (aaj rfl) ?_;have l:=BE (G:=G) w F g;rw[j] at l
 have N:w.length<=32:=by simp only[aY,aak,decide_eq_true_eq] at j;exact j.1
 have H:=h.2.2.1;have O:=eM (k:=.u32) H;have v:=hd.2.2.2.1;have I:=eM (k:=.u64) v;obtain⟨R,m⟩:=bb (cd d w s);have J:=GD d w s;have n:=GF hd w s h g;rw[<-m] at J n |-;simp[FL] at l;simp[FL,SV,DV,St.cs,Da.cs];refine au l ?_;simp
 refine xe (λz:St×Nat=>w.length-z.2) (λz=>[(0,FL w),(4,.ptr 0 0),(5,.ptr 1 0),(6,.ptr 2 0),(16,FL w),(17,.int .i64 w.length),(18,.int .i64 z.2)])
  (λz=>[some (.cells z.1.cs),some (.cells d.cs),some (.cells (av .u32 (aP 18)))])
  (λz=>z.2<=w.length/\z.1.ok/\(cd d (w.drop z.2) z.1).1=R.1/\z.2+(cd d (w.drop z.2) z.1).2=R.2) (s,0) ?_ ?_
 .refine⟨⟨Nat.zero_le _,h,by simp[m],by simp[m]⟩,?_,?_⟩
  .simp[aw,FL]
  .simp[ak,Da.cs,St.cs]
 rintro⟨t,i⟩ ⟨hi,f,a,b⟩;simp only at hi f a b;have c:=f.2.2.1;have o:=eM (k:=.u32) c
 by_cases p:i<w.length
 .obtain⟨x,y⟩:=bb (w[i])
  have P:w[i]?=some x:=by rw[aah p,y]
  have q:=y.symm;have A:=aaJ p;rw[q] at A;have B:=g x (q▸aa0 p);have C:x.cs=[.int .i64 x.op,.int .i64 x.jt,.int .i64 x.jf,.int .u32 (x.k:Int)]:=rfl;have e:=zGq (G:=G) t x d f B hd;have D:=IT f B hd;have r:=D.2.2.1;have K:=eM (k:=.u32) r;have L:=YE (k:=.u32) c;have u:av .u32 (aP 18)=.int .u32 0::.int .u32 0::av .u32 (aP 16):=rfl;rw[A] at a b;simp only[cd] at a b;simp[SV,IV,DV,C,St.cs,Da.cs] at e
  simp(disch:=omega)[bC,FL,q,C,St.cs,Da.cs,c,o,v,I,-aad];refine au e ?_;cases E:(ef t x d).2
  .rw[E] at a b;simp only[aar,if_false] at a b;simp[c,o,r,u,-aad];rw[<-a,<-b];simp
  .rw[E] at a b;simp only[if_true] at a b;simp(disch:=omega)[c,r,K,L,bD,-aad];refine⟨((ef t x d).1,i+1),by simp only;omega,⟨by simp only;omega,D,a,by simp only;omega⟩,?_,?_⟩
   .simp[aw,-aad]
   .simp[ak]
 .have M:i=w.length:=an
  subst M;rw[List.drop_length] at a b;simp only[cd] at a b;have u:av .u32 (aP 18)=.int .u32 0::.int .u32 0::av .u32 (aP 16):=rfl;simp[FL,St.cs,Da.cs,c,o,u];rw[<-a,<-b];simp
def zzd(l:List af):(IL l=[])=(l=[]):=propext (SG l)
def rU(s:St)(d:Da)(i:Nat):List Nat:=s.a::s.x::(s.m++((iV d).take i++aP (16-i)))
def zqX{s:St}{d:Da}(a:s.ok)(hd:d.ok){i:Nat}(hi:i<=16):(rU s d i).length=34:=by simp[rU,a.2.2.1,Ao hd.2.2.2.1];omega
def zte{s:St}{d:Da}(hd:d.ok):rU s d 16=eZ s d:=by rw[rU,show aP (16-16)=[] from rfl,aaW,aae (by rw[Ao hd.2.2.2.1];exact aav _),eZ]
def zE3{s:St}{d:Da}(a:s.ok)(hd:d.ok){i:Nat}(hi:i<16):(rU s d i).set (18+i) ((iV d).getD i 0)=rU s d (i+1):=by
 have f:=Ao hd.2.2.2.1;have b:=a.2.2.1
 have c:(iV d).getD i 0=(iV d)[i]'(by omega):=by simp[aaT,aah (show i<(iV d).length by omega)]
 rw[c]
 have e:18+i=(16+i)+1+1:=an
 simp only[rU,e,abQ]
 congr 2
 rw[aba _ _ an,b,show 16+i-16=i by omega]
 congr 1
 rw[aba _ _ (by rw[aaB];omega),aaB,ab4 an,acA,abz an,aap]
 congr 1
 rw[show 16-i=(16-(i+1))+1 by omega];rfl
def zo0[bV G][cW G](s:St)(d:Da)(b:s.ok)(hd:d.ok):FP G 293 [SV s,DV d] (.agg (av .u32 (eZ s d))):=by
 refine bt cW.ae4 (aaj rfl) ?_;have h:=b.2.2.1;have p:=eM (k:=.u32) h;have j:=hd.2.2.2.1;have q:=eM (k:=.u64) j;have n:av .u32 (aP 34)=.int .u32 0::.int .u32 0::av .u32 (aP 32):=rfl;have r:(av .u32 (aP 32)).drop 16=av .u32 (aP 16):=rfl
 have t:rU s d 0=s.a::s.x::(s.m++aP 16):=by simp[rU]
 have u:∀l m:List Nat,av .u32 (l++m)=av .u32 l++av .u32 m:=λl m=>by simp[av]
 simp[SV,DV,St.cs,Da.cs,n,h,p,r]
 refine aM 16 (λi=>[(3,.ptr 1 0),(4,.ptr 2 0),(5,.ptr 3 0),(17,.int .i64 i)])
  (λi=>[some (.cells s.cs),some (.cells d.cs),some (.cells (av .u32 (aP 34))),some (.cells (av .u32 (rU s d i)))]) (λ_=>True) ?_ ?_
 .have v:ba 4 (av .u32 s.m++av .u32 (aP 16))=av .u32 (s.m++aP 16):=by rw[<-u];simp
  simp[aw,ak,St.cs,Da.cs,t,n,v];rfl
 intro i hi _
 by_cases o:i<16
 .have c:=zys (G:=G) d (4*i) hd an
  have w:pG d (4*i)=((iV d).getD i 0,true):=by rw[pG,if_pos ⟨an,an⟩,show 4*i/4=i by omega]
  rw[w] at c;have e:=zqX b hd hi;have f:=wJ .u32 (rU s d i) (18+i) ((iV d).getD i 0) an;rw[zE3 b hd o] at f;obtain⟨x,y⟩:=bb ((iV d).getD i 0);rw[<-y] at f c
  have z:aD .i64 18 (i:Int)=((18+i:Nat):Int):=by rw[show(18:Int)=((18:Nat):Int) from rfl];exact rj an
  have A:dN .i64 4 (i:Int)=((4*i:Nat):Int):=by unfold dN;rw[show(4:Int)*(i:Int)=((4*i:Nat):Int) by omega];exact IntWalk.i64_in _ ⟨an,an⟩
  have B:eP .u32 ((4*i:Nat):Int)=((4*i:Nat):Int):=by unfold eP;exact IntWalk.u32_in _ ⟨an,an⟩
  simp[DV,Da.cs,-aax] at c;simp(disch:=omega)[bC,z,A,B,Da.cs,j,q,-aad,-aax];refine au c ?_;simp(disch:=omega)[bC,az,e,f,o,bD,aw,ak,St.cs,-aad,-aax]
 .have C:i=16:=an
  subst C;have e:=Zt b hd;have D:=eM (k:=.u32) e;have g:=zte (s:=s) hd;simp[g,e,D]
def zxV[bV G][dy G][bX G](v:List Nat)(b:v.length=34)(g:∀x∈v,x<4294967296):FP G 294 [.agg (av .u32 v)] (.a_ [SV (vV v),DV (mP (v.drop 18))]):=by
 refine bt bX.ae5 (aaj rfl) ?_;have O:=eM (k:=.u32) b;obtain⟨a,e⟩:=bb (v[0]);obtain⟨x,f⟩:=bb (v[1])
 have B:(av .u32 v).take 1=[.int .u32 (a:Nat)]:=by have:=r_ .u32 v 0 an;rwa[acv,<-e] at this
 have C:(av .u32 v).tail.take 1=[.int .u32 (x:Nat)]:=by have:=r_ .u32 v 1 an;rwa[abU,<-f] at this
 obtain⟨m,j⟩:=bb ((v.drop 2).take 16)
 have l:m.length=16:=by rw[j];simp[b]
 have E:((av .u32 v).drop 2).take 16=av .u32 m:=by rw[j];simp[av,List.map_drop,acw]
 have s:=eM (k:=.u32) l
 have n:vV v=⟨a,x,m⟩:=by rw[e,f,j];simp[vV,aaT,aah (show 0<v.length by omega),aah (show 1<v.length by omega)]
 have o:av .u32 (aP 18)=.int .u32 0::.int .u32 0::av .u32 (aP 16):=rfl;have F:(av .u32 (aP 16)).drop 16=[]:=rfl
 have H:mP (uD v 0)=⟨0,0,0,aP 6⟩:=by rw[zM3];rfl
 have I:av .u64 (aP 6)=[.int .u64 0,.int .u64 0,.int .u64 0,.int .u64 0,.int .u64 0,.int .u64 0]:=rfl;simp[b,B,C,E,o,F,l,s]
 refine aM 16 (λi=>[(1,.ptr 0 0),(2,.ptr 1 0),(3,.ptr 2 0),(4,.ptr 3 0),(5,.ptr 4 0),(16,.int .i64 i)])
  (λi=>[some (.cells (av .u32 v)),some (.cells (av .u32 (aP 18))),some (.cells ZD),some (.cells (St.cs ⟨a,x,m⟩)),some (.cells (mP (uD v i)).cs)]) (λ_=>True) ?_ ?_
 .simp[aw,ak,St.cs,Da.cs,H,o,I,ZD]
 intro i hi _;have t:=OK (SW b hi) (Zu g i);have c:=t.2.2.2.1;have h:=eM (k:=.u64) c
 by_cases u:i<16
 .have d:=zGv (G:=G) (mP (uD v i)) (4*i) (v[18+i]' an) t an (g _ (aa0 _));rw[zDW b g u] at d;have p:=OK (SW b (show i+1<=16 by omega)) (Zu g (i+1));have q:=p.2.2.2.1;have r:=eM (k:=.u64) q;have w:=r_ .u32 v (18+i) an;generalize mP (uD v i)=D at d c h;obtain⟨z,A⟩:=bb (mP (uD v (i+1)));rw[<-A] at d q r;obtain⟨y,J⟩:=bb (v[18+i]'(by omega))
  rw[<-J] at d w
  have K:aD .i64 18 (i:Int)=((18+i:Nat):Int):=by rw[show(18:Int)=((18:Nat):Int) from rfl];exact rj an
  have L:dN .i64 4 (i:Int)=((4*i:Nat):Int):=by unfold dN;rw[show(4:Int)*(i:Int)=((4*i:Nat):Int) by omega];exact IntWalk.i64_in _ ⟨an,an⟩
  have M:eP .u32 ((4*i:Nat):Int)=((4*i:Nat):Int):=by unfold eP;exact IntWalk.u32_in _ ⟨an,an⟩
  simp[DV,Da.cs,-aax] at d;simp(disch:=omega)[bC,az,K,L,M,Da.cs,c,h,b,w,-aad,-aax];refine au d ?_;simp(disch:=omega)[u,bD,aw,ak,St.cs,ZD,c,q,<-A,YE (k:=.u64) c,-aad,-aax]
 .have N:i=16:=an
  subst N;rw[zH5 b] at c h |-;simp[St.cs,Da.cs,ZD,c,h,l,s,o,n,SV,DV]
variable {L L':List Nd} {v:List Nat}
def zw8{n:Nat}(h:n<L.length):cD L (n:Int)=true:=by simp[cD];exact h
def Mb{k:Nat}{x:Int}(e:Ext L L' k)(h:cD L x=true):cD L' x=true/\dw v L' x=dw v L x:=by
 obtain⟨a,b⟩:0<=x/\x<L.length:=by simpa[cD] using h
 obtain⟨n,rfl⟩:=aay a;have:=e.pre.length_le;exact⟨zw8 an,L8 e an⟩
def wv.has{q:Int×List Nd}{o:Option Nat}(h:wv v q o):cD q.2 q.1=true/\dw v q.2 q.1=o:=by obtain⟨n,a,b,c⟩:=h;rw[a];exact⟨zw8 b,c⟩
def pt(t:St):List Nat:=t.a::t.x::t.m
structure PV (v:List Nat) (L:List Nd) (p:List Int) (t:St):Prop where
 len:p.length=18
 val:∀i,i<18->cD L (p.getD i 0)=true/\dw v L (p.getD i 0)=some ((pt t).getD i 0)
def zIu{t:St}(h:t.ok):(pt t).length=18:=by simp[pt,h.2.2.1]
def PV.set{p:List Int}{t a:St}{k i n:Nat}{x:Int}(h:PV v L p t)(e:Ext L L' k)(c:cD L' x=true)(d:dw v L' x=some n)(hi:i<18)(f:(pt t).length=18)(g:pt a=(pt t).set i n):PV v L' (p.set i x) a:=by
 refine⟨by rw[aaq];exact h.len,λj l=>?_⟩;rw[g,aag,aag,abo,abo]
 by_cases b:i=j
 .subst b;simp only[if_true,h.len,f,hi,aci];exact⟨c,d⟩
 .simp only[b,if_false,<-aag];obtain⟨m,o⟩:=h.val j l;obtain⟨q,r⟩:=Mb (v:=v) e m;exact⟨q,by rw[r,o]⟩
def PV.same{p:List Int}{t:St}{k:Nat}(h:PV v L p t)(e:Ext L L' k):PV v L' p t :=
 ⟨h.len,λj a=>by obtain⟨b,c⟩:=h.val j a;obtain⟨d,f⟩:=Mb (v:=v) e b;exact⟨d,by rw[f,c]⟩⟩
def zsd{op:Int}(h:(bg op).2.2=true):(cA (bg op).1 0 1).2=true:=by
 unfold bg at h |-;split at h
 .rename_i a;rw[if_pos a];simp only[aaG,aaH,or_false] at a
  rcases a with rfl|rfl|rfl|rfl|rfl|rfl|rfl|rfl|rfl<;>decide
 .rename_i b;rw[if_neg b];split at h
  .rename_i a;rw[if_pos a];simp only[aaG,aaH,or_false] at a
   rcases a with rfl|rfl|rfl|rfl|rfl|rfl|rfl|rfl|rfl<;>decide
  .cases h
def zE4{s:VS}{t:St}{I:St}{d:Da}{x:af}(hi:Inv s.L)(h:PV (eZ I d) s.L s.p t)(P:I.ok)(hd:d.ok)(Y:t.ok)(Z:x.k<4294967296)(J:mO x=true)(K:(ef t x d).2=true) :
  PV (eZ I d) (fO s x).L (fO s x).p (ef t x d).1:=by
 have E:=Zt P hd;have M:=zyw P hd;obtain⟨v,F⟩:=bb (eZ I d)
 have Q:∀j,j<16->v[18+j]?.getD 0=(iV d).getD j 0:=λj hj=>by
  have:=zBz (d:=d) P;rw[<-F] at this;rw[aag,<-this,acd]
 rw[<-F] at h E M |-;have hl:=zIu Y
 have G:∀(q:Int×List Nd) (n:Nat),wv v q (some n)->∀(i k:Nat) (w:St),Ext s.L q.2 k->i<18->pt w=(pt t).set i n->PV v q.2 (s.p.set i q.1) w:=λq n R i k w e S T=>by
  obtain⟨m,b⟩:=R.has;exact h.set e m b S hl T
 have C:∀(i j:Nat) (w:St),i<18->j<18->pt w=(pt t).set i ((pt t).getD j 0)->PV v s.L (s.p.set i (s.p.getD j 0)) w:=λi j w S hj T=>by
  obtain⟨m,b⟩:=h.val j hj;exact h.set (.refl hi 0) m b S hl T
 have U:wv v (bf s.L (fg (x.k::aP 34))) (some x.k):=zuz hi E Z;have V:Ext s.L (bf s.L (fg (x.k::aP 34))).2 1:=(wK hi (zH ir (CQ Z) _)).1
 have N:x.op=96\/x.op=97\/x.op=2\/x.op=3->x.k<16:=λu=>by
  simp only[mO,aak] at J;have b:=J.2
  rcases u with u|u|u|u<;>simp[kI,u] at b<;>exact b
 have W:x.op=32->x.k%4=0/\x.k<64:=λu=>by
  simp only[mO,aak] at J;have b:=J.2;simp[kI,u] at b;exact b
 cases D:(bg x.op).2.2 with
 | true =>
  rw[ef,if_pos D] at K;simp only at K
  have z:(ef t x d).1={ t with a:=(kg t x).1 }:=by rw[ef,if_pos D];simp only[K,if_true]
  rw[z,fO,if_pos D]
  have jN:Ext s.L (uM s x).2 1/\cD (uM s x).2 (uM s x).1=true/\dw v (uM s x).2 (uM s x).1=some (jo t x):=by
   rw[uM,jo]
   cases hb:(bg x.op).2.1 with
   | true =>
    simp only[if_true];obtain⟨m,b⟩:=h.val 1 an
    exact⟨.refl hi 1,m,b⟩
   | false =>
    simp only[aar,if_false];obtain⟨m,b⟩:=U.has;exact⟨V,m,b⟩
  obtain⟨O,b1,b2⟩:=jN;obtain⟨p1,p2⟩:=h.val 0 an;obtain⟨p3,p4⟩:=Mb (v:=v) O p1;have r:=zzb (v:=v) (kind:=(bg x.op).1) (x:=s.p.getD 0 0) (y:=(uM s x).1) O.inv E M (zsd D) p3 b1;rw[p4,p2,b2] at r;have ha:(pt t).getD 0 0=t.a:=rfl;have R:gH (bg x.op).1 (some t.a) (some (jo t x))=some (kg t x).1:=Ux K;rw[ha,R] at r
  exact G _ _ r 0 3 _ (O.trans (Y1 O.inv)) an rfl
 | false =>
  have z:(ef t x d).1=iE t x d:=by rw[ef,if_neg (by simp[D])]
  rw[z,fO,if_neg (by simp[D]),iE]
  by_cases c:x.op=0
  .simp only[c,if_true];exact G _ _ U 0 1 _ V an rfl
  by_cases f:x.op=1
  .simp only[f,if_true];exact G _ _ U 1 1 _ V an rfl
  by_cases g:x.op=32
  .obtain⟨k4,X⟩:=W g;have r:=zzc (v:=v) (i:=((18+x.k/4:Nat):Int)) hi E M an an;rw[aaY,Q _ an] at r
   have hw:(pG d x.k).1=(iV d).getD (x.k/4) 0:=by rw[pG,if_pos ⟨k4,X⟩]
   rw[if_neg c,if_neg f,if_pos g,if_neg c,if_neg f,if_pos g]
   have e:((18+x.k/4:Nat):Int)=18+((x.k/4:Nat):Int):=an
   rw[e] at r;exact G _ _ r 0 1 _ (K_ hi) an (by rw[hw];rfl)
  by_cases l:x.op=96
  .have A:=N (.inl l);rw[if_neg c,if_neg f,if_neg g,if_pos l,if_neg c,if_neg f,if_neg g,if_pos l];exact C 0 (2+x.k) _ an an (by rw[yS,if_pos A];simp only[pt,abP];rw[show 2+x.k=x.k+1+1 by omega,aaD,aaD])
  by_cases o:x.op=97
  .have A:=N (.inr (.inl o));rw[if_neg c,if_neg f,if_neg g,if_neg l,if_pos o,if_neg c,if_neg f,if_neg g,if_neg l,if_pos o];exact C 1 (2+x.k) _ an an (by rw[yS,if_pos A];simp only[pt,abQ,abP];rw[show 2+x.k=x.k+1+1 by omega,aaD,aaD])
  by_cases B:x.op=2
  .have A:=N (.inr (.inr (.inl B)));rw[if_neg c,if_neg f,if_neg g,if_neg l,if_neg o,if_pos B,if_neg c,if_neg f,if_neg g,if_neg l,if_neg o,if_pos B];exact C (2+x.k) 0 _ an an (by rw[va,if_pos A,show 2+x.k=x.k+1+1 by omega];rfl)
  by_cases H:x.op=3
  .have A:=N (.inr (.inr (.inr H)));rw[if_neg c,if_neg f,if_neg g,if_neg l,if_neg o,if_neg B,if_pos H,if_neg c,if_neg f,if_neg g,if_neg l,if_neg o,if_neg B,if_pos H];exact C (2+x.k) 1 _ an an (by rw[va,if_pos A,show 2+x.k=x.k+1+1 by omega];rfl)
  rw[if_neg c,if_neg f,if_neg g,if_neg l,if_neg o,if_neg B,if_neg H,if_neg c,if_neg f,if_neg g,if_neg l,if_neg o,if_neg B,if_neg H]
  by_cases uO:x.op=132
  .obtain⟨p1,p2⟩:=h.val 0 an;have r:=zG2 (v:=v) hi E M p1;rw[p2] at r;simp only[uO,if_true];exact G _ (oB t.a) r 0 3 _ (Y2 hi) an rfl
  by_cases o7:x.op=7
  .simp only[o7,if_true];have m:=C 1 0 { t with x:=t.a } an an rfl;obtain⟨p1,p2⟩:=h.val 0 an;exact m.set (.refl hi 0) p1 p2 an (by simp[pt,Y.2.2.1]) rfl
  by_cases x_:x.op=135
  .simp only[x_,if_true];exact C 0 1 _ an an rfl
  simp only[uO,o7,x_,if_false];exact h
def kj(w:List af)(n:Nat):Nat:=(w.take n).countP λx=>decide (x.op=60)
def Mc(x:af)(w:List af)(n:Nat):kj (x::w) (n+1)=(if x.op=60 then 1 else 0)+kj w n:=by simp only[kj,List.take_succ_cons,acj,decide_eq_true_eq];omega
def zqY{op:Int}:(bg op).2.1=true/\(bg op).1=52↔op=60:=by
 constructor
 .rintro⟨a,b⟩;unfold bg at a b;split at a
  .cases a
  .rename_i c;rw[if_neg c] at b;split at a
   .rename_i d;rw[if_pos d] at b;simp only at b;omega
   .cases a
 .rintro rfl;decide
def zG3:bg 60=(52,true,true):=by decide
def ztf(s:VS)(x:af):(fO s x).st=s.st++(if x.op=60 then [s.p.getD 1 0] else []):=by
 by_cases h:x.op=60
 .have a:(bg x.op).2.2=true:=by rw[h];decide
  rw[fO,if_pos a,if_pos h];simp only[zqY.2 h,and_self,if_true]
 .rw[if_neg h,aaW,fO];split
  .simp only[show¬((bg x.op).2.1=true/\(bg x.op).1=52) from λb=>h (zqY.1 b),if_false]
  .repeat (first|rfl|split)
def zCG{kind:Int}{a b:Nat}(d:(cA kind 0 1).2=true)(h:(cA kind a b).2=false):kind=52/\b=0:=by
 unfold cA at d h
 by_cases e:kind=52
 .subst e;refine⟨rfl,?_⟩
  by_cases c:b=0
  .exact c
  .simp[c] at h
 .exfalso
  repeat' split at h
  all_goals first|(cases h;done)|skip
  all_goals simp_all
def zw9{t:St}{x:af}{d:Da}(e:mO x=true)(h:(ef t x d).2=false):x.op=60/\t.x=0:=by
 rw[ef] at h;split at h
 .rename_i f;simp only at h;obtain⟨b,c⟩:=zCG (zsd f) h
  cases a:(bg x.op).2.1 with
  | true =>
   rw[jo,if_pos a] at c
   exact⟨zqY.1 ⟨a,b⟩,c⟩
  | false =>
   exfalso;rw[jo,a,if_neg ir] at c
   have:x.op=52:=by
    unfold bg at b a;split at b
    .exact b
    .rename_i g;rw[if_neg g] at a;split at b
     .rename_i i;rw[if_pos i] at a;cases a
     .cases b
   simp only[mO,kI,this,aak] at e;simp at e;omega
 .cases h
def zIv{t:St}{x:af}{d:Da}(h:(ef t x d).2=true)(a:x.op=60):t.x≠0:=by intro b;rw[ef,if_pos (by rw[a];decide)] at h;simp only[kg,jo,a,zG3,if_true,b] at h;simp[cA] at h
def zuB{s:VS}{x:af}(hi:Inv s.L)(a:s.p.length=18)(b:x.k<4294967296):Ext s.L (fO s x).L 3/\(fO s x).p.length=18:=by have:=zw6 (L:=s.L) (s:=s) (k:=0) (n:=s.st.length) ⟨.refl hi 0,a,aav _⟩ b;exact⟨this.ext,this.len⟩
def zxa:∀(w:List af) {s:VS},Inv s.L->s.p.length=18->(∀x∈w,x.k<4294967296)->Ext s.L (w.foldl fO s).L (3*w.length)/\(w.foldl fO s).p.length=18
 | [],s,hi,a,_=>⟨.refl hi _,a⟩
 | x::w,s,hi,a,b=>by
  obtain⟨c,d⟩:=zuB hi a (b x ir);obtain⟨e,f⟩:=zxa w (s:=fO s x) c.inv d λy g=>b y (by simp[g]);exact⟨(c.trans e).mono (by simp;omega),f⟩
def zze:∀(w:List af) (s:VS),∃a,(w.foldl fO s).st=s.st++a/\a.length=kj w w.length
 | [],s=>⟨[],ir,by simp[kj]⟩
 | x::w,s=>by
  obtain⟨a,b,c⟩:=zze w (fO s x);refine⟨(if x.op=60 then [s.p.getD 1 0] else [])++a,by rw[acm,b,ztf,aap],?_⟩;rw[aan,Mc,aao,c]
  split<;>rfl
structure WV (v:List Nat) (L:List Nd) (p st:List Int) (w:List af) (d:Da) (t:St):Prop where
 num:st.length=kj w w.length
 ahead:∀i,i<kj w (cd d w t).2->∃x n,st[i]?=some x/\cD L x=true/\dw v L x=some n/\n≠0
 stop:(cd d w t).2<w.length->∃x,st[kj w (cd d w t).2]?=some x/\cD L x=true/\dw v L x=some 0
 done:(cd d w t).2=w.length->PV v L p (cd d w t).1
def zuC{q:St}{d:Da}(C:q.ok)(hd:d.ok):∀(w:List af) {s:VS} {t:St},Inv s.L->PV (eZ q d) s.L s.p t->t.ok->(∀x∈w,x.k<4294967296)->(∀x∈w,mO x=true) ->
  ∃a,(w.foldl fO s).st=s.st++a/\WV (eZ q d) (w.foldl fO s).L (w.foldl fO s).p a w d t
 | [],s,t,hi,l,u,_,_=>⟨[],ir,by simp[kj],λi h=>by simp[kj] at h,λh=>by simp[cd] at h,λ_=>l⟩
 | x::w,s,t,hi,l,u,D,E=>by
  have c:=D x ir;have F:=E x ir;obtain⟨z,J⟩:=zuB hi l.len c;have G:∀y∈w,y.k<4294967296:=λy A=>D y (by simp[A]);obtain⟨K,U⟩:=zxa w (s:=fO s x) z.inv J G;have e:=z.trans K;obtain⟨q1,M⟩:=l.val 1 an;obtain⟨H,r⟩:=Mb (v:=eZ q d) e q1;rw[M] at r;have N:(pt t).getD 1 0=t.x:=rfl;rw[N] at r;rw[acm]
  cases m:(ef t x d).2 with
  | true =>
   have O:=zE4 hi l C hd u c F m;have P:=IT u c hd;obtain⟨a,n1,B⟩:=zuC C hd w z.inv O P G λy A=>E y (by simp[A])
   have f:cd d (x::w) t=((cd d w (ef t x d).1).1,(cd d w (ef t x d).1).2+1):=by simp only[cd,m,if_true]
   obtain⟨Q,I,R,S⟩:=B;refine⟨(if x.op=60 then [s.p.getD 1 0] else [])++a,by rw[n1,ztf,aap],?_,?_,?_,?_⟩
   .rw[aan,Mc,aao,Q]
    split<;>rfl
   .rw[f];intro i g;simp only[Mc] at g
    by_cases b:x.op=60
    .rw[if_pos b] at g |-
     cases i with
     | zero=>exact⟨_,_,rfl,H,r,zIv m b⟩
     | succ i =>
      obtain⟨y,n,j,o⟩:=I i an;exact⟨y,n,by simpa using j,o⟩
    .rw[if_neg b] at g |-;obtain⟨y,n,j,o⟩:=I i an;exact⟨y,n,by simpa using j,o⟩
   .rw[f];intro g;simp only[Mc,aan] at g |-;obtain⟨y,j,o⟩:=R an;refine⟨y,?_,o⟩
    by_cases b:x.op=60
    .rw[if_pos b,if_pos b,abC];simpa using j
    .rw[if_neg b,if_neg b,aa1];simpa using j
   .rw[f];intro h;simp only[aan] at h
    exact S an
  | false =>
   obtain⟨b,T⟩:=zw9 F m
   have f:cd d (x::w) t=(t,0):=by simp only[cd,m,aar,if_false]
   obtain⟨a,n1,B⟩:=zze w (fO s x);refine⟨(if x.op=60 then [s.p.getD 1 0] else [])++a,by rw[n1,ztf,aap],?_,?_,?_,?_⟩
   .rw[aan,Mc,aao,B]
    split<;>rfl
   .rw[f];intro i g;simp[kj] at g
   .rw[f];intro _;rw[if_pos b];exact⟨_,rfl,H,by rw[r,T]⟩
   .rw[f];intro h;simp at h
def zxb{s:St}{d:Da}(a:s.ok){i:Nat}(hi:i<18):(eZ s d).getD i 0=(pt s).getD i 0:=by
 have b:=a.2.2.1
 have e:eZ s d=pt s++iV d:=by simp[eZ,pt]
 rw[e,aag,aag,aaf (by simp[pt,b];omega)]
def zE5{s:St}{d:Da}(hi:Inv L)(b:s.ok)(hd:d.ok):PV (eZ s d) (kp L 18).L (kp L 18).p s:=by
 have e:=Zt b hd;have f:=zyw b hd
 have a:∀n,n<=18->∀i,i<n->cD (kp L n).L ((kp L n).p.getD i 0)=true/\dw (eZ s d) (kp L n).L ((kp L n).p.getD i 0)=some ((pt s).getD i 0):=by
  intro n
  induction n with
  | zero=>intro _ i h;omega
  | succ n g =>
   intro t i u;have c:=Ma hi n;rw[UC,Fh];simp only;have r:=zzc (v:=eZ s d) (i:=(n:Int)) c.ext.inv e f an an;obtain⟨j,k⟩:=r.has
   by_cases h:i=n
   .subst h;rw[aag,abo,if_pos rfl,if_pos (by rw[c.len];omega),aci];refine⟨j,?_⟩;rw[k,aaY,<-aag,zxb b an]
   .rw[aag,abo,if_neg an,<-aag];obtain⟨l,m⟩:=g an i an;obtain⟨o,q⟩:=Mb (v:=eZ s d) (K_ c.ext.inv) l;exact⟨o,by rw[q,m]⟩
 exact⟨(Ma hi 18).len,λi h=>a 18 (aav _) i h⟩
def Uk{s:St}{d:Da}{w:List af}(hi:Inv L)(a:s.ok)(hd:d.ok)(g:∀x∈w,x.k<4294967296)(c:aY w=true):WV (eZ s d) (aQ L w).L (aQ L w).p (aQ L w).st w d s:=by
 have b:∀x∈w,mO x=true:=by simp only[aY,aak,ach] at c;exact c.2
 obtain⟨h,e,f⟩:=zuC a hd w (Ma hi 18).ext.inv (zE5 hi a hd) a g b;rw[zw7,List.nil_append] at e;rw[<-e] at f;exact f
def WV.ext{p st:List Int}{w:List af}{d:Da}{t:St}{k:Nat}(h:WV v L p st w d t)(e:Ext L L' k):WV v L' p st w d t:=by
 have l:∀{x:Int} {o:Option Nat},cD L x=true->dw v L x=o->cD L' x=true/\dw v L' x=o:=λa b=>by
  obtain⟨m,q⟩:=Mb (v:=v) e a;exact⟨m,by rw[q,b]⟩
 refine⟨h.num,λi hi=>?_,λf=>?_,λf=>(h.done f).same e⟩
 .obtain⟨x,n,a,b,c,d⟩:=h.ahead i hi;obtain⟨g,j⟩:=l b c;exact⟨x,n,a,g,j,d⟩
 .obtain⟨x,a,b,c⟩:=h.stop f;obtain⟨g,j⟩:=l b c;exact⟨x,a,g,j⟩
def lV(s:St)(n:Nat):ba n s.cs=s.cs:=by simp[St.cs,V.cl,ij,av,aal]
def Cg(d:Da)(n:Nat):ba n d.cs=d.cs:=by simp[Da.cs,V.cl,ij,av,aal]
def Qr(s:St):s.cs.map V.jA=s.cs:=by simp[St.cs,av,aal,V.jA]
def G9(d:Da):d.cs.map V.jA=d.cs:=by simp[Da.cs,av,aal,V.jA]
def Me{s:St}(h:s.ok):s.cs.length=18:=by simp[St.cs,h.2.2.1]
def JG{d:Da}(h:d.ok):d.cs.length=9:=by simp[Da.cs,h.2.2.2.1]
def z_(live p:Nat):Bool:=live/2^p%2==1
def y9(live:Nat)(x y:List Nat)(p:Nat):Bool:=z_ live p&&(x.getD p 0 !=y.getD p 0)
def UE(live:Nat)(x y:List Nat):Bool:=(aaZ 18).any (y9 live x y)
def wu(v w:List af)(live:Nat)(s:St)(d:Da):Bool :=
 if(cd d v s).2<v.length\/(cd d w s).2<w.length then !(decide ((cd d v s).2<v.length)&&decide ((cd d w s).2<w.length))
 else UE live (eZ (cd d v s).1 d) (eZ (cd d w s).1 d)
def zAm[cP G](live p:Nat)(a:live<4294967296)(e:p<=31):FP G 307 [.int .u32 live,.int .i64 p] (.bool (z_ live p)):=by
 refine bt cP.ae8 (aaj rfl) ?_;have b:live/2^p<4294967296:=Nat.lt_of_le_of_lt (Nat.div_le_self _ _) a
 have c:(((live/2^p%2:Nat):Int)==1)=z_ live p:=by unfold z_;rw[Bool.eq_iff_iff,beq_iff_eq,beq_iff_eq];omega
 have d:((p:Int)<0)=False:=ag6;simp(disch:=omega)[A_,zFj b,c,d,-acg,-abZ,-Int.natCast_pow]
def zsg{live:Nat}{x y:List Nat}{i:Nat}(hi:i<18)(h:y9 live x y i=true):UE live x y=true :=
 abA.2 ⟨i,aaI.2 hi,h⟩
def zuD{live:Nat}{x y:List Nat}(h:∀j<18,y9 live x y j=false):UE live x y=false:=by rw[UE,List.any_eq_false];intro j a;rw[h j (aaI.1 a)];decide
def zAn[eo G][dK G][aA G][aB G][bV G][du G][aO G][cV G][cW G][cP G](v w:List af)(live:Nat)(s:St)(d:Da)(W:v.length<=maxLen)(Z:w.length<=maxLen)
  (z:∀x∈v,x.k<4294967296) (C:∀x∈w,x.k<4294967296) (gT:live<4294967296) (c:s.ok) (hd:d.ok) :
  FP G 308 [FL v,FL w,.int .u32 live,SV s,DV d] (.bool (aY v&&aY w&&wu v w live s d)):=by
 refine bt cP.ae9 (aaj rfl) ?_;have HZ:=BE (G:=G) v W z;have RM:=BE (G:=G) w Z C;have sl:=Me c;have g:=JG hd;have st:=aae (i:=18) (l:=s.cs) an;have dt:=aae (i:=9) (l:=d.cs) an;have sd:s.cs.drop 18=[]:=aai an;have dd:d.cs.drop 9=[]:=aai an;simp only[FL] at HZ RM;simp[FL,SV,DV];refine au HZ ?_
 cases hv:aY v with
 | false=>simp
 | true =>
  simp;refine au RM ?_
  cases hw:aY w with
  | false=>simp
  | true =>
   have D:=zuA (G:=G) v s d W z c hd hv;have b:=zuA (G:=G) w s d Z C c hd hw;have o:=GF hd v s c z;have r:=GF hd w s c C;have CF:=GD d v s;have Ae:=GD d w s;have E:wu v w live s d=wu v w live s d:=rfl
   conv at E=>rhs;unfold wu
   obtain⟨A,F⟩:=bb ((cd d v s).1);obtain⟨n,H⟩:=bb ((cd d v s).2);obtain⟨B,I⟩:=bb ((cd d w s).1);obtain⟨m,J⟩:=bb ((cd d w s).2);rw[<-F,<-H] at D;rw[<-I,<-J] at b;rw[<-F,<-I,<-H,<-J] at E;rw[<-F] at o;rw[<-I] at r;rw[<-H] at CF;rw[<-J] at Ae;rw[E];have al:=Me o;have bl:=Me r;have K:=aae (i:=18) (l:=A.cs) an;have L:=aae (i:=18) (l:=B.cs) an
   have x1:=zo0 (G:=G) A d o hd;have x2:=zo0 (G:=G) B d r hd
   have t:(eZ A d).length=34:=by rw[<-zte hd];exact zqX o hd an
   have u:(eZ B d).length=34:=by rw[<-zte hd];exact zqX r hd an
   obtain⟨X,M⟩:=bb (eZ A d);obtain⟨Y,N⟩:=bb (eZ B d);rw[<-M] at x1 t;rw[<-N] at x2 u;simp only[FL,SV,DV] at D b x1 x2;simp[sl,g,st,dt,lV,Cg,Qr,G9];refine au D ?_;simp[sl,g,st,dt,al,lV,Cg,Qr,G9];refine au b ?_;have c1:((n:Int)<(v.length:Int))=(n<v.length):=propext an;have c2:((m:Int)<(w.length:Int))=(m<w.length):=propext an;simp[bl,c1,c2]
   by_cases y:n<v.length
   .by_cases e:m<w.length
    .simp[y,e]
    .simp[y,e]
   by_cases e:m<w.length
   .simp[y,e]
   simp[y,e,g,dt,al,K,lV,Cg,Qr,G9];refine au x1 ?_;simp[g,dt,bl,L,lV,Cg,Qr,G9];refine au x2 ?_;have xt:=aae (i:=34) (l:=av .u32 X) (by simp;omega);have yt:=aae (i:=34) (l:=av .u32 Y) (by simp;omega);have xd:(av .u32 X).drop 34=[]:=aai (by simp;omega);have yd:(av .u32 Y).drop 34=[]:=aai (by simp;omega);simp[t,u]
   refine aM 18 (λi=>[(2,.int .u32 live),(17,.ptr 4 0),(18,.ptr 5 0),(63,.int .i64 i)])
    (λi=>[some (.cells s.cs),some (.cells d.cs),some (.cells A.cs),some (.cells B.cs),some (.cells (av .u32 X)),some (.cells (av .u32 Y))]) (λi=>∀j<i,y9 live X Y j=false) ?_ ?_
   .simp[aw,ak,lV,Cg]
   intro i hi O
   by_cases P:i<18
   .have jh:=zAm (G:=G) live i gT an;have Q:=r_ .u32 X i an;have R:=r_ .u32 Y i an
    have gx:X.getD i 0=X[i]'(by omega):=by simp[aaT,aah (show i<X.length by omega)]
    have gy:Y.getD i 0=Y[i]'(by omega):=by simp[aaT,aah (show i<Y.length by omega)]
    have a:y9 live X Y i=y9 live X Y i:=rfl
    conv at a=>rhs;rw[y9,gx,gy]
    obtain⟨p,Ld⟩:=bb (X[i]'(by omega));obtain⟨q,f⟩:=bb (Y[i]'(by omega));rw[<-Ld,<-f] at a;rw[<-Ld] at Q;rw[<-f] at R;simp(disch:=omega)[bC];refine au jh ?_
    cases b:z_ live i with
    | false =>
     rw[b,abN] at a
     have S:∀j<i+1,y9 live X Y j=false:=λj T=>by
      rcases aaw.1 T with h|rfl
      .exact O j h
      .exact a
     simp(disch:=omega)[P,bD,aw,ak,lV,Cg,-aad]
     exact S
    | true =>
     rw[b,aaX] at a
     by_cases U:p=q
     .have V:y9 live X Y i=false:=by rw[a,U];simp
      have S:∀j<i+1,y9 live X Y j=false:=λj T=>by
       rcases aaw.1 T with h|rfl
       .exact O j h
       .exact V
      simp(disch:=omega)[bC,az,P,t,u,Q,R,U,bD,aw,ak,lV,Cg,-aad];exact S
     .have V:y9 live X Y i=true:=by rw[a];simp[U]
      have:=zsg P V;simp(disch:=omega)[bC,az,t,u,Q,R,ke (show(p:Int)≠q by omega),this,<-M,<-N]
   .have ay:i=18:=an
    subst ay;simp[zuD O,<-M,<-N]
structure MI (v:List Nat) (s:MS):Prop where
 inv:Inv s.L
 len:s.ids.length=s.made.length
 ok:XM s.made
 rel:∀(i:Nat) (x:Int) (a:Md) (o:Option Nat),s.ids[i]?=some x->s.made[i]?=some a->(refs v s.made)[i]?=some o ->
  a.kind=4/\x=-1/\o=none\/a.kind≠4/\∃n:Nat,x=n/\n<s.L.length/\dw v s.L n=o
def Qs(f g:List Nat):Option Nat:=(aaZ 34).find? λi=>decide (f.getD (i+1) 0≠g.getD (i+1) 0)
def y_(f g:List Nat):List Nat×Bool:=if f.headD 0≠g.headD 0 then(aP 34,true) else match Qs f g with
 | some i=>((aP 34).set i 1,true)
 | none=>(aP 34,false)
def zAo(f g:List Nat):(y_ f g).1.length=34:=by
 rw[y_];split
 .simp
 .split<;>simp
def zCH(f g:List Nat):∀x∈(y_ f g).1,x<4294967296:=by
 rw[y_];split
 .exact xD 34
 .split
  .intro x a
   rcases List.mem_or_eq_of_mem_set a with h|rfl
   .exact xD 34 x h
   .decide
  .exact xD 34
def zCI[bO G](f g:List Nat)(y:f.length=35)(z:g.length=35):FP G 255 [.agg (av .u32 f),.agg (av .u32 g)] (.a_ [.agg (av .u32 (y_ f g).1),.bool (y_ f g).2]):=by
 refine bt bO.adY (aaj rfl) ?_
 obtain⟨c,t,rfl⟩:∃c t,f=c::t:=by cases f with|nil=>simp at y|cons c t=>exact⟨c,t,rfl⟩
 obtain⟨d,u,rfl⟩:∃c t,g=c::t:=by cases g with|nil=>simp at z|cons c t=>exact⟨c,t,rfl⟩
 have a:t.length=34:=by simpa using y
 have b:u.length=34:=by simpa using z
 have A:av .u32 (c::t)=.int .u32 (c:Int)::av .u32 t:=rfl;have hd:av .u32 (d::u)=.int .u32 (d:Int)::av .u32 u:=rfl;have F:=eM (k:=.u32) a;have H:=eM (k:=.u32) b
 have h:∀(i:Nat) (x:V) (l:List V),(x::l).drop (1+i)=l.drop i:=λi x l=>by rw[abC,abJ]
 have o:(av .u32 (aP 34)).drop 34=[]:=rfl
 by_cases p:c=d
 case neg =>
  have K:((c:Int)==(d:Int))=false:=aF an
  have m:y_ (c::t) (d::u)=(aP 34,true):=by simp[y_,p]
  simp[-aaC,A,hd,a,b,o,m,ke,p]
 subst p
 have bne:((c:Int) !=(c:Int))=false:=by simp
 simp[-aaC,A,hd,a,b,F]
 refine aM 34 (λi=>[(3,.ptr 1 0),(4,.ptr 2 0),(6,.ptr 3 0),(16,.agg (av .u32 t)),(17,.int .i64 i)])
  (λi=>[some (.cells (.int .u32 (c:Int)::av .u32 t)),some (.cells (.int .u32 (c:Int)::av .u32 u)),some (.cells (av .u32 (aP 34))),some (.cells (av .u32 (aP 34)))]) (λi=>∀j,j<i->t.getD j 0=u.getD j 0) ?_ ?_
 .simp[aw,ak,ba,V.cl]
 intro i hi q
 by_cases r:i<34
 .have q1:=D4 .u32 (kW (show i<t.length by omega));have B:=D4 .u32 (kW (show i<u.length by omega))
  have C:t.getD i 0=t[i]'(by omega):=by rw[aag,kW an];rfl
  have D:u.getD i 0=u[i]'(by omega):=by rw[aag,kW an];rfl
  by_cases s:t[i]' an=u[i]' an
  .have I:∀j,j<i+1->t.getD j 0=u.getD j 0:=λj n=>by
    by_cases e:j=i
    .subst e;rw[C,D,s]
    .exact q j an
   simp(disch:=omega)[bC,leFn,az,r,a,b,q1,B,h,s,bD,-aad,aw,ak,ba,V.cl];simpa using I
  .have J:((t[i]'(by omega):Nat):Int)≠((u[i]'(by omega):Nat):Int):=an
   have v:Qs (c::t) (c::u)=some i:=by
    rw[Qs,List.find?_range_eq_some];refine⟨?_,aaI.2 r,λj n=>?_⟩
    .simp only[aaD,C,D];simpa using s
    .have:=q j n;simp only[aaD];simpa using this
   have m:y_ (c::t) (c::u)=((aP 34).set i 1,true):=by simp[y_,v]
   have E:=wJ .u32 (aP 34) i 1 (by simpa using r);have w:(av .u32 ((aP 34).set i 1)).take 34=av .u32 ((aP 34).set i 1):=eM ir;simp(disch:=omega)[-aaC,bC,leFn,az,a,b,q1,B,h,ke J,m,o];simp at E;simp(disch:=omega)[-aaC,E,w]
 .obtain rfl:i=34:=by omega
  have v:Qs (c::t) (c::u)=none:=by rw[Qs,abS];intro j n;have:=q j (aaI.1 n);simp only[aaD];simpa using this
  have m:y_ (c::t) (c::u)=(aP 34,false):=by simp[y_,v]
  simp[-aaC,m,o]
def zCJ(M:List Int)(p:Int->Bool):∀w∈jj M p,w<4294967296:=by
 intro w a;simp only[jj,abE] at a;obtain⟨i,_,rfl⟩:=a
 split<;>omega
def zAp(fv gv:List Int)(ft gt:List Nat):(yB fv gv ft gt).1.length=34:=by
 simp only[yB];split
 .split<;>simp[jj]
 .simp
def zCK(fv gv:List Int)(ft gt:List Nat):∀x∈(yB fv gv ft gt).1,x<4294967296:=by
 simp only[yB];split
 .split
  .exact zCJ _ _
  .exact xD 34
 .exact xD 34
noncomputable def Fj(a c:Nd):List Nat×Bool:=if a.kind=0/\c.kind=0 then y_ a.f c.f else match gG a,gG c with
 | some p,some q=>yB p.1 q.1 p.2 q.2
 | _,_=>(aP 34,false)
noncomputable def tO(L:List Nd)(x y:Int):List Nat×Bool:=if cD L x=true/\cD L y=true/\x≠y then(match L[x.toNat]?,L[y.toNat]? with
 | some a,some c=>Fj a c
 | _,_=>(aP 34,false)) else(aP 34,false)
def zzf(a c:Nd):(Fj a c).1.length=34/\∀x∈(Fj a c).1,x<4294967296:=by
 rw[Fj];split
 .exact⟨zAo _ _,zCH _ _⟩
 .split
  .exact⟨zAp _ _ _ _,zCK _ _ _ _⟩
  .exact⟨ir,xD 34⟩
def zzg(L:List Nd)(x y:Int):(tO L x y).1.length=34/\∀c∈(tO L x y).1,c<4294967296:=by
 rw[tO];split
 .split
  .exact zzf _ _
  .exact⟨ir,xD 34⟩
 .exact⟨ir,xD 34⟩
def zIw{x y:Nat}{a c:Nd}(b:L[x]?=some a)(d:L[y]?=some c)(g:x≠y):tO L x y=Fj a c:=by have e:=(aab.1 b).1;have f:=(aab.1 d).1;rw[tO,if_pos ⟨by simp[cD];exact e,by simp[cD];exact f,an⟩,aaY,aaY,b,d]
def zG4[bO G][ar G][U:dQ G][aL G][bW G](x y:Int)(h:Bk H b z m L)(hi:Inv L):SF G 277 [.ptr b 0,.int .i64 x,.int .i64 y] H (.a_ [.agg (av .u32 (tO L x y).1),.bool (tO L x y).2]) H:=by
 haveI:bG G:=U.tobG
 refine km bW.adX (aaj rfl) ?_;obtain⟨Z,i⟩:=bb (av .u32 (aP 34))
 have j:Z.length=34:=by rw[i];simp
 have l:Z.drop 34=[]:=aai an;have B:Z.take 34=Z:=aae an
 have o:∀n,ba n Z=Z:=λn=>by rw[i];simp
 have hb:∀n,aau (ax.cl n) (some (.cells Z))=some (.cells Z):=λn=>by simp[ax.cl,o]
 have t:Bk (H++[some (.cells Z),some (.cells Z)]) b z m L:=h.app λn=>by simp[ax.cl,o]
 have tC:=t.shut.self;have s:=h.shut.back;simp at tC;simp[<-i,-aaC];refine cN (Ig x t) ?_
 cases hx:cD L x with
 | false =>
  have C:tO L x y=(aP 34,false):=by rw[tO,if_neg (by simp[hx])]
  simp[C,<-i,j,l,B,s,o]
 | true =>
  simp;refine cN (Ig y t) ?_
  cases hy:cD L y with
  | false =>
   have C:tO L x y=(aP 34,false):=by rw[tO,if_neg (by simp[hy])]
   simp[C,<-i,j,l,B,s,o]
  | true =>
   by_cases V:x=y
   .subst V
    have C:tO L x x=(aP 34,false):=by rw[tO,if_neg ir]
    simp[C,<-i,j,l,B,s,o]
   have wU:(x==y)=false:=aF V
   obtain⟨sg,yk⟩:0<=x/\x<L.length:=by simpa[cD] using hx
   obtain⟨DN,AU⟩:0<=y/\y<L.length:=by simpa[cD] using hy
   obtain⟨K,rfl⟩:=aay sg;obtain⟨M,rfl⟩:=aay DN;obtain⟨a,N⟩:∃a,L[K]?=some a:=⟨_,kW an⟩;obtain⟨c,O⟩:∃c,L[M]?=some c:=⟨_,kW an⟩;have v:=hi.cM _ _ N;have w:=hi.cM _ _ O;have C:tO L K M=Fj a c:=zIw N O (λe=>V (by rw[e]));have P:=zzf a c;rw[C];have rz:(av .u32 (aP 35)).drop 35=[]:=rfl;have ta:=eM (k:=.u32) v.1.1;have tc:=eM (k:=.u32) w.1.1
   have Q:∀r:ae,(∀n,r.map (aau (ax.cl n))=r)->Bk (H++some (.cells Z)::some (.cells Z)::r) b z m L:=λr W=>h.app λn=>by simp[ax.cl,o,W n]
   have T:∀r:ae,(∀n,r.map (aau (ax.cl n))=r)->ak (H.length+(r.length+1+1)) (H++some (.cells Z)::some (.cells Z)::r)=H++some (.cells Z)::some (.cells Z)::r:=λr W=>by
    have:=(Q r W).shut.self;simpa using this
   simp[wU,-aaC];refine cN (NA K a (Q [none] λn=>by simp) N) ?_
   have s1:=T [some (.cells (av .u32 a.f))] λn=>by simp[ax.cl]
   simp at s1;simp[v.1.1,rz];refine cN (NA M c (Q [some (.cells (av .u32 a.f)),none] λn=>by simp[ax.cl]) O) ?_
   have s2:=T [some (.cells (av .u32 a.f)),some (.cells (av .u32 c.f))] λn=>by simp[ax.cl]
   simp at s2;simp[w.1.1,rz];obtain⟨A,D⟩:=bb (Fj a c);rw[<-D] at P |-;have X:=eM (k:=.u32) P.1
   by_cases I:a.kind=0/\c.kind=0
   .have d:A=y_ a.f c.f:=by rw[D,Fj,if_pos I]
    have hf:=zCI (G:=G) a.f c.f v.1.1 w.1.1;rw[<-d] at hf;simp[I.1,I.2,v.1.1,ta,w.1.1,tc];refine au hf ?_;simp[P.1,X,j,l,s]
   .have he:(decide (a.kind=0)&&decide (c.kind=0))=false:=by
     rw[Bool.and_eq_false_iff]
     by_cases J:a.kind=0
     .right;simpa using λt=>I ⟨J,t⟩
     .left;simpa using J
    have b1:=Q [some (.cells (av .u32 a.f)),some (.cells (av .u32 c.f)),none] λn=>by simp[ax.cl]
    have b2:=Q [some (.cells (av .u32 a.f)),some (.cells (av .u32 c.f)),some (.cells (mu (gG a))),none] λn=>by simp[ax.cl,KH]
    have s3:=T [some (.cells (av .u32 a.f)),some (.cells (av .u32 c.f)),some (.cells (mu (gG a)))] λn=>by simp[ax.cl,KH]
    have s4:=T [some (.cells (av .u32 a.f)),some (.cells (av .u32 c.f)),some (.cells (mu (gG a))),some (.cells (mu (gG c)))] λn=>by simp[ax.cl,KH]
    simp at s3 s4
    have g:∀(p q:Option (List Int×List Nat)),gG a=p->gG c=q->(p.isSome=true->q.isSome=true->∃Y q',p=some Y/\q=some q'/\A=yB Y.1 q'.1 Y.2 q'.2)/\((p.isSome&&q.isSome)=false->A=(aP 34,false)):=λp q ep eq=>by
     have d:=D;rw[Fj,if_neg I,ep,eq] at d
     cases p<;>cases q<;>simp at d |-<;>exact d
    by_cases J:a.kind=0
    .have t:¬c.kind=0:=λt=>I ⟨J,t⟩;simp[J];simp[t];refine cN (Il K a b1 N v.2.1) ?_;simp[KF,KG];refine cN (Il M c b2 O w.2.1) ?_;simp[KF,KG]
     cases u:gG a with
     | none =>
      have d:=(g _ _ u rfl).2 rfl
      simp[d,<-i,j,l,B,s,o]
     | some p =>
      cases E:gG c with
      | none =>
       have d:=(g _ _ u E).2 rfl
       simp[d,<-i,j,l,B,s,o]
      | some q =>
       obtain⟨_,_,e1,e2,d⟩:=(g _ _ u E).1 rfl rfl;cases e1;cases e2;obtain⟨R,yH⟩:=Ij v.2.1 u;obtain⟨S,Ik⟩:=Ij w.2.1 E;have l1:=R.1;have l2:=S.1;have l3:=CM l1 R.2.1;have l4:=CM l2 S.2.1;have F:=zvr U p.1 q.1 p.2 q.2 an an an an yH Ik;rw[<-d] at F;simp only[FV] at F;simp[mu];refine au F ?_;simp[P.1,X,j,l,s]
    .simp[J];refine cN (Il K a b1 N v.2.1) ?_;simp[KF,KG];refine cN (Il M c b2 O w.2.1) ?_;simp[KF,KG]
     cases u:gG a with
     | none =>
      have d:=(g _ _ u rfl).2 rfl
      simp[d,<-i,j,l,B,s,o]
     | some p =>
      cases E:gG c with
      | none =>
       have d:=(g _ _ u E).2 rfl
       simp[d,<-i,j,l,B,s,o]
      | some q =>
       obtain⟨_,_,e1,e2,d⟩:=(g _ _ u E).1 rfl rfl;cases e1;cases e2;obtain⟨R,yH⟩:=Ij v.2.1 u;obtain⟨S,Ik⟩:=Ij w.2.1 E;have l1:=R.1;have l2:=S.1;have l3:=CM l1 R.2.1;have l4:=CM l2 S.2.1;have F:=zvr U p.1 q.1 p.2 q.2 an an an an yH Ik;rw[<-d] at F;simp only[FV] at F;simp[mu];refine au F ?_;simp[P.1,X,j,l,s]
variable {L L' Xw:List Nd}
def Nd.pl(a:Nd):Prop:=(a.kind=0->a=fg a.f)/\(a.kind=1->∃fv ft,a=vL fv ft/\Right fv ft/\fv≠[]/\∀i,fv=[i]->ft≠[0,ones]/\ft≠[ones,0])
end Go.Ev
namespace Go.Ev
open Go Go.RowKit
variable {G:aK}
variable {L L':List Nd} {l:List Md}
inductive Qt (s:MS) (a:Md):Md->Int×List Nd->Prop
 | none {b p}:b.kind=4->Qt s a b p
 | con {b}:b.kind=0->b.c=a.c->Qt s a b (bf s.L (fg (a.c::aP 34)))
 | var {b}:b.kind=1->0<=b.i->b.i<34->Qt s a b (lS s.L b.i)
 | alu {b}:b.kind=2->(cA b.op 0 1).2=true->XK s.made b.x=true->XK s.made b.y=true->Qt s a b (iD s.L b.op (YY s.ids b.x) (YY s.ids b.y))
 | neg {b}:b.kind=3->XK s.made b.x=true->Qt s a b (oH s.L (YY s.ids b.x))
def za(i:Nat):List Nat:=[0,4294967295,1,2147483648,3+7*i,16843009*(i+1),2,65535,1431655765,2863311530*2^(i%3)%4294967296,i%2,i*2654435769%4294967296]
def mD(k:Nat):List Nat:=(aaZ 34).map λi=>(za i).getD k 0
def JZ(k:Nat):(mD k).length=34:=by simp[mD]
def zCL{i:Nat}(hi:i<34):∀x∈za i,x<4294967296:=by
 intro x a;simp only[za,aaG,aaH,or_false] at a
 rcases a with rfl|rfl|rfl|rfl|rfl|rfl|rfl|rfl|rfl|rfl|rfl|rfl<;>omega
def zG5(k:Nat):∀x∈mD k,x<4294967296:=by
 intro x a;simp only[mD,abE,aaI] at a;obtain⟨i,hi,rfl⟩:=a;rw[aaT]
 cases b:(za i)[k]? with
 | none=>decide
 | some y=>exact zCL hi y (aaA b)
def wW(k i:Nat):List Nat:=(mD k).take i++aP (34-i)
def zo1{k i:Nat}(hi:i<=34):(wW k i).length=34:=by simp[wW,JZ];omega
def zE6(k:Nat):wW k 34=mD k:=by rw[wW,aae (by rw[JZ];exact aav _)];simp[aP]
def zCM{k i:Nat}(hi:i<34):(wW k i).set i ((za i).getD k 0)=wW k (i+1):=by
 have a:(mD k)[i]'(by rw[JZ];omega)=(za i).getD k 0:=by simp[mD]
 rw[wW,wW,aba _ _ (by rw[aaB];omega),aaB,ab4 (by rw[JZ];omega),acA,abz (by rw[JZ];omega),a,aap]
 congr 1
 rw[show 34-i=(34-(i+1))+1 by omega];rfl
def zIx{a b:Nat}:dN .u32 (a:Int) (b:Int)=((a*b%4294967296:Nat):Int):=by unfold dN;rw[<-aax];simp only[IntKind.wrap,IntKind.bits,IntKind.signed];simp
section
variable {α:Type} {f:Nat->Option α} {hit:α->Bool} {n i:Nat}
def znK(h:∀j<n,∀r,f j=some r->hit r=false):((aaZ n).filterMap f).find? hit=none:=by rw[abS];intro r a;obtain⟨j,b,c⟩:=aa3.1 a;rw[h j (aaI.1 b) r c];decide
def zxc(hi:i<n)(h:∀j<i,∀r,f j=some r->hit r=false){r:α}(a:f i=some r)(b:hit r=true):((aaZ n).filterMap f).find? hit=some r:=by obtain⟨m,rfl⟩:∃m,n=i+(m+1):=⟨n-i-1,an⟩;rw[List.range_add,List.filterMap_append,abp,znK h,Option.none_or];rw[List.range_succ_eq_map,aa2,List.filterMap_cons];simp only[ace,a,List.find?_cons,b]
end
noncomputable def Fk(L:List Nd)(p q:List Int)(live i:Nat):Option (List Nat):=if z_ live i=true/\(tO L (p.getD i 0) (q.getD i 0)).2=true then some (tO L (p.getD i 0) (q.getD i 0)).1 else none
noncomputable def sY(L:List Nd)(p q:List Int)(live:Nat):List (List Nat):=(aaZ 18).filterMap (Fk L p q live)++(aaZ 12).filterMap λk=>some (mD k)
def UH{L:List Nd}{p q:List Int}{live:Nat}{r:List Nat}(h:r∈sY L p q live):r.length=34/\∀x∈r,x<4294967296:=by
 rw[sY,aa4] at h
 rcases h with h|h
 .obtain⟨j,b,a⟩:=aa3.1 h;unfold Fk at a;split at a
  .cases a;exact zzg _ _ _
  .cases a
 .obtain⟨j,b,a⟩:=aa3.1 h;cases a;exact⟨JZ _,zG5 _⟩
section
variable {H:ae} {b z m:Nat} {L:List Nd}
def Qu{A X:ae}{n:Nat}(h:ak n A=A)(a:A.length=n):ak n (A++X)=A:=by unfold ak at h |-;rw[abB a];rwa[aae (Nat.le_of_eq a)] at h
def zCN[bO G][ar G][S:dQ G][aL G][bW G][cP G][eW G](h:Bk H b z m L)(hi:Inv L){id i1 i2 i3 i4 live:Nat}{p q s t:List Int}(gT:live<4294967296)
  (T:H[i1]?=some (some (.cells [.int .u32 live]))) (U:H[i2]?=some (some (.cells [.ptr b 0]))) (W:H[i3]?=some (some (.cells (vcs p s .no)))) (Y:H[i4]?=some (some (.cells (vcs q t .no))))
  (hp:p.length=18) (hq:q.length=18) (o:id<H.length) {hit:List Nat->Bool} {H':List Nat->ae}
  (yb:∀r∈sY L p q live,hit r=false->∀X:ae,(∀n,X.map (aau (ax.cl n))=X)->YS G id [.agg (av .u32 r)] (H++X) true (H++X))
  (iI:∀r∈sY L p q live,hit r=true->∀X:ae,(∀n,X.map (aau (ax.cl n))=X)->YS G id [.agg (av .u32 r)] (H++X) false (H' r++X))
  (oe:∀r∈sY L p q live,hit r=true->ak H.length (H' r)=H' r/\(H' r).length=H.length) :
  SF G 310 [.yld id,.ptr i1 0,.ptr i2 0,.ptr i3 0,.ptr i4 0] H (.a_ []) (match(sY L p q live).find? hit with|some r=>H' r|none=>H):=by
 refine km eW.afb (aaj rfl) ?_;have w:i1<H.length:=(aab.1 T).1;have A:i2<H.length:=(aab.1 U).1;have B:i3<H.length:=(aab.1 W).1;have C:i4<H.length:=(aab.1 Y).1;have D:=h.shut.self;have Z:=h.shut.back;have js:=h.lb;have g1:=(aab.1 T).2;have g2:=(aab.1 U).2;have g3:=(aab.1 W).2;have g4:=(aab.1 Y).2
 have e1:∀X:ae,(H++X)[i1]?=some (some (.cells [.int .u32 live])):=λX=>by rw[aaf w];exact T
 have e2:∀X:ae,(H++X)[i2]?=some (some (.cells [.ptr b 0])):=λX=>by rw[aaf A];exact U
 have e3:∀X:ae,(H++X)[i3]?=some (some (.cells (vcs p s .no))):=λX=>by rw[aaf B];exact W
 have e4:∀X:ae,(H++X)[i4]?=some (some (.cells (vcs q t .no))):=λX=>by rw[aaf C];exact Y
 have HT:∀(X:ae) h,(H++X)[i1]'h=some (.cells [.int .u32 live]):=λX h=>(aab.1 (e1 X)).2;have CJ:∀(X:ae) h,(H++X)[i2]'h=some (.cells [.ptr b 0]):=λX h=>(aab.1 (e2 X)).2;have ho:∀(X:ae) h,(H++X)[i3]'h=some (.cells (vcs p s .no)):=λX h=>(aab.1 (e3 X)).2;have ht:∀(X:ae) h,(H++X)[i4]'h=some (.cells (vcs q t .no)):=λX h=>(aab.1 (e4 X)).2;have k0:∀(r:ae) x,(H++r).set H.length x=H++r.set 0 x:=λr x=>tN rfl x
 have kk:∀r:ae,(H++r)[H.length]?=r[0]?:=λr=>oT rfl;have lp:=Hg (st:=s) (tk:=.no) hp;have lq:=Hg (st:=t) (tk:=.no) hq
 have ha:Bk (H++[none]) b z m L:=h.app λn=>by simp
 have qq:H.map (aau (ax.cl H.length))=H:=by have:=D;unfold ak at this;rwa[aae (aav _)] at this
 simp;refine aM 18 (λi=>[(0,.yld id),(1,.ptr i1 0),(2,.ptr i2 0),(3,.ptr i3 0),(4,.ptr i4 0),(12,.int .i64 i)]) (λ_=>H) (λi=>∀j<i,∀r,Fk L p q live j=some r->hit r=false) ?_ ?_
 .simp[aw,D,o,w,A,B,C]
 intro i qL O
 by_cases e:i<18
 .have jh:=zAm (G:=G) live i gT an;simp(disch:=omega)[bC,g1];refine au jh ?_
  cases hb:z_ live i with
  | false =>
   have he:∀j<i+1,∀r,Fk L p q live j=some r->hit r=false:=λj E r c=>by
    rcases aaw.1 E with h|rfl
    .exact O j h r c
    .simp[Fk,hb] at c
   simp(disch:=omega)[e,bD,aw,D,o,w,A,B,C,-aad]
   exact he
  | true =>
   obtain⟨x,hx⟩:=bb (p.getD i 0);obtain⟨y,hy⟩:=bb (q.getD i 0)
   have gx:x=p[i]'(by omega):=by rw[hx];simp[aaT,aah (show i<p.length by omega)]
   have gy:y=q[i]'(by omega):=by rw[hy];simp[aaT,aah (show i<q.length by omega)]
   have vx:=JU (p:=p) (st:=s) (tk:=.no) hp e;have vy:=JU (p:=q) (st:=t) (tk:=.no) hq e;rw[<-gx] at vx;rw[<-gy] at vy;have fT:=zG4 (G:=G) x y ha hi;have F:=zzg L x y
   have I:Fk L p q live i=if(tO L x y).2=true then some (tO L x y).1 else none:=by rw[hx,hy];simp[Fk,hb]
   obtain⟨r,c⟩:=bb ((tO L x y).1);obtain⟨P,jB⟩:=bb ((tO L x y).2);rw[<-c,<-jB] at fT I;rw[<-c] at F;have rt:=eM (k:=.u32) F.1;have rd:(av .u32 r).drop 34=[]:=aai (by simp[F.1]);simp(disch:=omega)[bC,az,leFn,e2,e3,e4,lp,lq,vx,vy];refine zAX fT ⟨?_,?_,rfl⟩ ?_
   .intro v hv;simp only[aaG,aaH,or_false] at hv
    rcases hv with rfl|rfl|rfl<;>simp[V.cl,js]
   .simp only[acn,qq,aa2,ab0,Option.map_none]
   simp(disch:=omega)[k0,kk,F.1]
   have zN:P=true->r∈sY L p q live:=λh=>by
    rw[sY,aa4];exact .inl (aa3.2 ⟨i,aaI.2 e,by rw[I,if_pos h]⟩)
   have Qx:(∀Q,Fk L p q live i=some Q->hit Q=false)->∀j<i+1,∀r,Fk L p q live j=some r->hit r=false:=λh0 j E r c=>by
    rcases aaw.1 E with h|rfl
    .exact O j h r c
    .exact h0 r c
   cases P with
   | false =>
    have:=Qx λQ h=>by rw[I] at h;cases h
    simp(disch:=omega)[e,bD,aw,Z,o,w,A,B,C,-aad]
    exact this
   | true =>
    have J:∀n,([some (ax.cells (av .u32 r))]:ae).map (aau (ax.cl n))=[some (ax.cells (av .u32 r))]:=λn=>by simp[ax.cl]
    simp(disch:=omega)[kk,F.1,rt]
    cases d:hit r with
    | false =>
     refine CY (yb r (zN rfl) d _ J) ?_
     have:=Qx λQ h=>by rw[I,if_pos rfl] at h;cases h;exact d
     simp(disch:=omega)[e,bD,aw,Z,o,w,A,B,C,-aad]
     exact this
    | true =>
     refine CY (iI r (zN rfl) d _ J) ?_;obtain⟨mq,gC⟩:=oe r (zN rfl) d;have hf:=zxc e O (by rw[I,if_pos rfl]) d
     have K:(sY L p q live).find? hit=some r:=by rw[sY,abp,hf];rfl
     simp[K,Qu mq gC]
 .have M:i=18:=an
  subst M;have S:=znK O;simp;refine aM 12 (λk=>[(0,.yld id),(40,.int .u32 k)]) (λ_=>H) (λk=>∀j<k,∀r,(some (mD j):Option (List Nat))=some r->hit r=false) ?_ ?_
  .simp[aw,D,o]
  intro k hk vi
  by_cases u:k<12
  .have hu:[V.int .u32 0,.int .u32 0]=[V.int .u32 0,.int .u32 0]:=rfl
   have hs:∀i,ak (H.length+1) (H++[some (.cells (av .u32 (wW k i)))])=H++[some (.cells (av .u32 (wW k i)))]:=λi=>by
    have:=(h.app (r:=[some (.cells (av .u32 (wW k i)))]) λn=>by simp[ax.cl]).shut.self;simpa using this
   simp(disch:=omega)[bC,kk,k0];refine aM 34 (λi=>[(0,.yld id),(9,.int .u32 k),(10,.ptr H.length 0),(40,.int .u32 k),(43,.int .i64 i)]) (λi=>H++[some (.cells (av .u32 (wW k i)))]) (λ_=>True) ?_ ?_
   .have:=hs 0;rw[show wW k 0=aP 34 by simp[wW]] at this;simp[aw,this,wW,show id<H.length+1 by omega]
   intro i hi _
   by_cases R:i<34
   .have r3:fU (i:Int) 3=((i%3:Nat):Int):=vH (b:=3);have r2:fU (i:Int) 2=((i%2:Nat):Int):=vH (b:=2);have hg:(((i%3:Nat):Int)<0)=False:=ag6;have s3:je .u32 2863311530 ((i%3:Nat):Int)=((2863311530*2^(i%3)%4294967296:Nat):Int):=Nb (a:=2863311530) an;have c1:eP .u32 (i:Int)=(i:Int):=sG an;have c2:eP .u32 ((i+1:Nat):Int)=((i+1:Nat):Int):=sG an;have c3:eP .u32 ((i%2:Nat):Int)=((i%2:Nat):Int):=sG an
    have m1:dN .u32 7 (i:Int)=((7*i:Nat):Int):=RO (a:=7) an
    have a1:aD .u32 3 ((7*i:Nat):Int)=((3+7*i:Nat):Int):=by unfold aD;rw[show(3:Int)+((7*i:Nat):Int)=((3+7*i:Nat):Int) by omega];exact sG an
    have m2:dN .u32 16843009 ((i+1:Nat):Int)=((16843009*(i+1):Nat):Int):=RO (a:=16843009) an;have m3:dN .u32 (i:Int) 2654435769=((i*2654435769%4294967296:Nat):Int):=zIx (b:=2654435769)
    have hc:∀f:Nat,f=2863311530*2^(i%3)%4294967296->∀g:Nat,g=i*2654435769%4294967296->[V.int .u32 0,.int .u32 4294967295,.int .u32 1,.int .u32 2147483648,.int .u32 ((3+7*i:Nat):Int),.int .u32 ((16843009*(i+1):Nat):Int),.int .u32 2,.int .u32 65535,.int .u32 1431655765,.int .u32 (f:Int),.int .u32 ((i%2:Nat):Int),.int .u32 (g:Int)]=av .u32 (za i):=by rintro f rfl g rfl;rfl
    obtain⟨f,N⟩:=bb (2863311530*2^(i%3)%4294967296);obtain⟨g,Qz⟩:=bb (i*2654435769%4294967296);have hc:=hc f N g Qz;rw[<-N] at s3;rw[<-Qz] at m3;have hl:av .u32 (aP 12)=[V.int .u32 0,.int .u32 0,.int .u32 0,.int .u32 0,.int .u32 0,.int .u32 0,.int .u32 0,.int .u32 0,.int .u32 0,.int .u32 0,.int .u32 0,.int .u32 0]:=rfl;have lc:(za i).length=12:=rfl;have cg:=r_ .u32 (za i) k (by rw[lc];exact u)
    have hm:(za i)[k]'(by rw[lc];exact u)=(za i).getD k 0:=by simp[aaT,aah (show k<(za i).length from u)]
    rw[hm] at cg;have l:=wJ .u32 (wW k i) i ((za i).getD k 0) (by rw[zo1 hi];exact R);rw[zCM R] at l;obtain⟨cv,yK⟩:=bb ((za i).getD k 0);rw[<-yK] at cg l;simp(disch:=omega)[bC,r3,r2,hg,s3,c1,bD,c2,c3,m1,a1,m2,m3,hl,-aad,-aax,-abZ];have lr:=zo1 hi (k:=k);have hw:=zo1 (show i+1<=34 from R) (k:=k);rw[hc,cg];simp(disch:=omega)[bC,az,R,show k<=11 by omega,kk,k0,lr,l,hs,aw,bD,show id<H.length+1 by omega,-aad]
   .have M:i=34:=an
    subst M
    have J:∀n,([some (ax.cells (av .u32 (mD k)))]:ae).map (aau (ax.cl n))=[some (ax.cells (av .u32 (mD k)))]:=λn=>by simp[ax.cl]
    have ix:mD k∈sY L p q live:=by rw[sY,aa4];exact .inr (aa3.2 ⟨k,aaI.2 u,rfl⟩)
    have rl:=JZ k;have rt:=eM (k:=.u32) rl
    have ck:aD .u32 (k:Int) 1=((k+1:Nat):Int):=by unfold aD;rw[show(k:Int)+1=((k+1:Nat):Int) by omega];exact sG an
    simp[zE6,rl,rt]
    cases d:hit (mD k) with
    | false =>
     refine CY (yb _ ix d _ J) ?_
     have hn:∀j<k+1,∀r,(some (mD j):Option (List Nat))=some r->hit r=false:=λj E r c=>by
      rcases aaw.1 E with h|rfl
      .exact vi j h r c
      .cases c;exact d
     simp(disch:=omega)[u,ck,aw,Z,o,-aad]
     simpa using hn
    | true =>
     refine CY (iI _ ix d _ J) ?_;obtain⟨mq,gC⟩:=oe _ ix d;have hB:=zxc u vi rfl d
     have K:(sY L p q live).find? hit=some (mD k):=by rw[sY,abp,S,hB];rfl
     simp[K,Qu mq gC]
  .have M:k=12:=an
   subst M;have hB:=znK vi
   have K:(sY L p q live).find? hit=none:=by rw[sY,abp,S,hB];rfl
   simp[K,D]
end
open Go Go.RowKit
variable {G:aK}
def Cu(p q:List Int)(live i:Nat):Bool:=z_ live i&&(p.getD i 0 !=q.getD i 0)
def x6(p q s t:List Int)(live:Nat):Bool:=!((aaZ 18).any (Cu p q live))&&decide (s=t)
def zo2{p q s t:List Int}{live:Nat}:x6 p q s t live=true↔(∀i<18,Cu p q live i=false)/\s=t:=by simp[x6]
def zCO{p q s t:List Int}{live i:Nat}(hi:i<18)(h:Cu p q live i=true):x6 p q s t live=false:=by have:(aaZ 18).any (Cu p q live)=true:=abA.2 ⟨i,aaI.2 hi,h⟩;simp only[x6,this,Bool.not_true,abN]
def zuE{p q s t:List Int}{live:Nat}(h:s≠t):x6 p q s t live=false:=by simp[x6,h]
def zG6[cP G][eW G](p q s t:List Int)(live:Nat)(K:live<4294967296)(u:p.length=18)(v:q.length=18)(X:s.length<=1000000) :
  FP G 309 [.agg (vcs p s .no),.agg (vcs q t .no),.int .u32 live] (.bool (x6 p q s t live)):=by
 refine bt eW.afa (aaj rfl) ?_;have m:=Hg (st:=s) (tk:=.no) u;have f:=Hg (st:=t) (tk:=.no) v
 have g:∀n,ba n (vcs p s .no)=vcs p s .no:=λn=>by rw[ij,vcs];simp[ny,aal,V.cl,Tk.cl]
 have k:∀n,ba n (vcs q t .no)=vcs q t .no:=λn=>by rw[ij,vcs];simp[ny,aal,V.cl,Tk.cl]
 have L:(vcs p s .no).map V.jA=vcs p s .no:=by simp[vcs,ny,aal,V.jA]
 have M:(vcs q t .no).map V.jA=vcs q t .no:=by simp[vcs,ny,aal,V.jA]
 have sp:=zw4 (st:=s) (tk:=.no) u;have r:=zw4 (st:=t) (tk:=.no) v;obtain⟨P,E⟩:=bb (vcs p s .no);obtain⟨Q,F⟩:=bb (vcs q t .no);simp only[<-E,<-F] at m f g k L M sp r |-;simp;refine aM 18 (λi=>[(2,.int .u32 live),(3,.ptr 0 0),(4,.ptr 1 0),(10,.int .i64 i)]) (λ_=>[some (.cells P),some (.cells Q)]) (λi=>∀j<i,Cu p q live j=false) ?_ ?_
 .simp[aw,ak,g,k]
 intro i hi H
 by_cases b:i<18
 .have N:=zAm (G:=G) live i K an;obtain⟨x,c⟩:=bb (p.getD i 0);obtain⟨y,d⟩:=bb (q.getD i 0)
  have O:x=p[i]'(by omega):=by rw[c];simp[aaT,aah (show i<p.length by omega)]
  have R:y=q[i]'(by omega):=by rw[d];simp[aaT,aah (show i<q.length by omega)]
  have w:=JU (p:=p) (st:=s) (tk:=.no) u b;have z:=JU (p:=q) (st:=t) (tk:=.no) v b;rw[<-O,<-E] at w;rw[<-R,<-F] at z
  have o:Cu p q live i=(z_ live i&&(x !=y)):=by rw[c,d];rfl
  have I:Cu p q live i=false->∀j<i+1,Cu p q live j=false:=λS j T=>by
   rcases aaw.1 T with h|rfl
   .exact H j h
   .exact S
  simp(disch:=omega)[bC];refine au N ?_
  cases J:z_ live i with
  | false =>
   rw[J,abN] at o;simp(disch:=omega)[b,bD,aw,ak,g,k,-aad]
   exact I o
  | true =>
   rw[J,aaX] at o
   by_cases a:x=y
   .have A:Cu p q live i=false:=by rw[o,a];simp
    simp(disch:=omega)[bC,az,m,f,w,z,a,b,bD,aw,ak,g,k,-aad];exact I A
   .have A:Cu p q live i=true:=by rw[o];simp[a]
    simp(disch:=omega)[bC,az,m,f,w,z,ke a,zCO b A]
 .have e:i=18:=an
  subst e;simp[m,f,sp,r]
  by_cases l:s.length=t.length
  .simp[l,m,sp];refine aM s.length (λi=>[(4,.ptr 1 0),(36,.vs (ints .i64 s) .no),(37,.int .i64 s.length),(38,.int .i64 i)]) (λ_=>[some (.cells P),some (.cells Q)]) (λi=>s.take i=t.take i) ?_ ?_
   .simp[aw,ak,g,k,l]
   intro i hi B
   by_cases b:i<s.length
   .have C:(ints .i64 s)[i]?=some [.int .i64 s[i]]:=by simp[b]
    have D:(ints .i64 t)[i]?=some [.int .i64 (t[i]' an)]:=by simp[show i<t.length by omega]
    obtain⟨x,c⟩:=bb (s[i]);obtain⟨y,d⟩:=bb (t[i]'(by omega));rw[<-c] at C;rw[<-d] at D;have c:=c.symm;have d:=d.symm
    by_cases a:x=y
    .have U:s.take (i+1)=t.take (i+1):=by rw[aaL,aaL,B,aah b,aah (show i<t.length by omega),c,d,a]
     simp(disch:=omega)[bC,l,f,r,C,D,a,bD,aw,ak,g,k,U,show i<t.length by omega,-aad]
    .have e:s≠t:=by rintro rfl;exact a (c.symm.trans d)
     simp(disch:=omega)[bC,l,f,r,C,D,ke a,zuE e]
   .have e:i=s.length:=an
    subst e;rw[aaO,l,aaO] at B;simp[zo2.2 ⟨H,B⟩]
  .have e:s≠t:=λh=>l (by rw[h]);have W:((s.length:Int) !=(t.length:Int))=true:=ke an;simp[W,zuE e]
mutual
def V.wy{n m:Nat}(h:n<=m):∀v:V,(v.cl m).cl n=v.cl n
 | .ptr id b=>by
  by_cases a:id<m
  .simp only[V.cl,if_pos a]
  .simp only[V.cl,if_neg a,if_neg (show¬id<n by omega)]
 | .rs id b k e=>by
  by_cases a:id<m
  .simp only[V.cl,if_pos a]
  .simp only[V.cl,if_neg a,if_neg (show¬id<n by omega)]
 | .mp id=>by
  by_cases a:id<m
  .simp only[V.cl,if_pos a]
  .simp only[V.cl,if_neg a,if_neg (show¬id<n by omega)]
 | .yld id=>by
  by_cases a:id<m
  .simp only[V.cl,if_pos a]
  .simp only[V.cl,if_neg a,if_neg (show¬id<n by omega)]
 | .gs id k=>by
  by_cases a:id<m
  .simp only[V.cl,if_pos a]
  .simp only[V.cl,if_neg a,if_neg (show¬id<n by omega)]
 | .vs g tk=>by
  simp only[V.cl]
  cases tk with
  | own q =>
   by_cases a:q<m
   .simp only[Tk.cl,if_pos a]
   .simp only[Tk.cl,if_neg a,if_neg (show¬q<n by omega)]
  | no=>rfl
  | full=>rfl
 | .fn f c=>by simp only[V.cl,J1 h c]
 | .agg d=>by simp only[V.cl,J1 h d]
 | .a_ d=>by simp only[V.cl,J1 h d]
 | .undef=>rfl
 | .mf=>rfl
 | .any=>rfl
 | .int _ _=>rfl
 | .bool _=>rfl
 | .str _=>rfl
 | .nilp=>rfl
 | .cptr _=>rfl
 | .nilf=>rfl
 | .nilm=>rfl
def J1{n m:Nat}(h:n<=m):∀cs:List V,ba n (ba m cs)=ba n cs
 | []=>rfl
 | c::cs=>by simp only[ba,V.wy h c,J1 h cs]
end
def ax.wy{n m:Nat}(h:n<=m)(b:ax):(b.cl m).cl n=b.cl n:=by
 cases b with
 | cells a=>simp only[ax.cl,J1 h]
 | grow a c d=>simp only[ax.cl,J1 h]
 | zone k=>rfl
 | jy a=>simp only[ax.cl,J1 h]
 | map e=>simp only[ax.cl,acf];congr 1;exact abK λp _=>by simp only[ab9,V.wy h]
 | dF s pos=>rfl
 | loop f g as bo st=>simp only[ax.cl,acf];congr 1;exact abK λp _=>by simp only[ab9,V.wy h]
def zxW{n m:Nat}(h:n<=m)(H:ae):ak n (ak m H)=ak n H:=by
 unfold ak;rw[<-acw,acf,List.take_take,ab4 h]
 exact abK λb _=>by cases b with
  | none=>rfl
  | some b=>simp only[ab9,ab3,ax.wy h]
def zuR{H1:ae}{n k:Nat}{e0:List (Nat×V)}{ps:List Nat}{as bo:bc}{st:AA}(h:(ak n H1)[k]?=some (some (.loop e0 ps as bo st))):∃c,H1[k]?=some (some (.loop c ps as bo st)):=by
 unfold ak at h;rw[abt] at h
 by_cases d:k<n
 .rw[List.getElem?_take_of_lt d] at h
  cases a:H1[k]? with
  | none=>rw[a] at h;cases h
  | some b =>
   rw[a] at h
   cases b with
   | none=>simp at h
   | some b =>
    cases b<;>simp[ax.cl] at h
    obtain⟨_,rfl,rfl,rfl,rfl⟩:=h;exact⟨_,rfl⟩
 .rw[List.getElem?_take_eq_none an] at h;cases h
def QA{f:Nat}{cap:List V}{l ps:List Nat}{as bo:bc}{r:V}{H H2:ae}{e0:List (Nat×V)}{g:List Nat}{i j:bc}{st:AA}{x:Ex}{K:List Kt}{e:Env}{Q:Ex->Env->ae->Prop}
  (h:SF G f (.yld H.length::cap) (H++[some (.loop (look e l) ps as bo .ready)]) r H2)
  (b:H2[H.length]?=some (some (.loop e0 g i j st))) (a:st=.ready/\x=.nx\/st=.done x/\x≠.nx) (c:Wr G x K e (ak H.length H2) Q):Yp G (.fn f cap) l ps as bo K e H Q:=by
 obtain⟨n,H1,k,_,d⟩:=h;rw[<-d] at b;obtain⟨o,m⟩:=zuR b;refine zBd k m a ?_;rw[<-d,zxW ir] at c;exact c
open Go Go.RowKit
variable {G:aK}
def dO(c:Int):Option (List Nat)->List V
 | some r=>.int .i64 c::((vV r).cs++(mP (r.drop 18)).cs)
 | none=>.int .i64 c::(av .u32 (aP 20)++av .u64 (aP 7))
def tP:bc:=.region 1 [⟨some 13,.alloc 0 (av .u32 (aP 34)),none⟩,⟨none,.store 34 (.t 13) (.t 46),none⟩]
def tQ:bc:=.block 1 (.seq (.region 2 [⟨some 48,.load 34 true false (.t 13),none⟩,⟨some 49,.pcall 294 [.t 48],none⟩,⟨some 47,.mv (.t 49),none⟩,⟨some 50,.ext 0 (.t 47),none⟩,⟨some 51,.ext 1 (.t 47),none⟩,⟨some 14,.alloc 0 (av .u32 (aP 18)),none⟩,
 ⟨some 15,.alloc 1 [.int .u32 0,.int .u32 0,.int .u64 0,.int .u64 0,.int .u64 0,.int .u64 0,.int .u64 0,.int .u64 0,.int .u64 0],none⟩,⟨none,.store 18 (.t 14) (.t 50),none⟩,⟨none,.store 9 (.t 15) (.t 51),none⟩])
 (.seq (.keep [3,4,5,6,7,14,15]) (.seq (.region 0 [⟨some 52,.load 1 false false (.t 3),none⟩,⟨some 53,.load 1 false false (.t 4),none⟩,⟨some 54,.load 1 false false (.t 5),none⟩,⟨some 55,.load 18 true false (.t 14),none⟩,⟨some 56,.load 9 true false (.t 15),none⟩,
  ⟨some 57,.pcall 308 [.t 52,.t 53,.t 54,.t 55,.t 56],none⟩]) (.seq (.keep [6,7,14,15,57]) (.cond (.t 57) (.seq (.region 0 [⟨some 58,.load 18 true false (.t 14),none⟩,⟨some 59,.load 9 true false (.t 15),none⟩,
   ⟨some 60,.build (dO 0 none) [(0,1,.c (.int .i64 1)),(1,18,.t 58),(19,9,.t 59)],none⟩,⟨none,.store 28 (.t 6) (.t 60),none⟩,⟨none,.store 1 (.t 7) (.c (.int .i64 0)),none⟩]) .ret) .skip)))))
def jK:List (Nat×V):=[(3,.ptr 0 0),(4,.ptr 1 0),(5,.ptr 2 0),(6,.ptr 3 0),(7,.ptr 4 0)]
structure Cv (N:ae) (v w:List af) (live:Nat):Prop where
 b0:N[0]?=some (some (.cells [.vs (IL v) .no]))
 b1:N[1]?=some (some (.cells [.vs (IL w) .no]))
 b2:N[2]?=some (some (.cells [.int .u32 live]))
 b3:N[3]?=some (some (.cells (dO 0 none)))
 b4:N[4]?=some (some (.cells [.int .i64 0]))
 lo:N[14]?=some (some (.loop jK [46] tP tQ .ready))
 shut:im N
def Cv.app{N:ae}{v w:List af}{live:Nat}(h:Cv N v w live){X:ae}(a:∀n,X.map (aau (ax.cl n))=X):Cv (N++X) v w live:=by
 have b:=(aab.1 h.lo).1;refine⟨?_,?_,?_,?_,?_,?_,h.shut.app a⟩
 all_goals rw[aaf an]
 .exact h.b0
 .exact h.b1
 .exact h.b2
 .exact h.b3
 .exact h.b4
 .exact h.lo
def jL(N:ae)(r:List Nat):ae:=((N.set 3 (some (.cells (dO 1 (some r))))).set 4 (some (.cells [.int .i64 0]))).set 14 (some (.loop jK [46] tP tQ (.done .ret)))
def zE7{N X:ae}{r:List Nat}(h:14<N.length):jL (N++X) r=jL N r++X:=by unfold jL;rw[aat _ _ an,aat _ _ (by simp;omega),aat _ _ (by simp;omega)]
def zo3{N:ae}(h:im N)(g:14<N.length)(r:List Nat):im (jL N r):=by
 intro m c
 have d:N.length<=m:=by simpa[jL] using c
 have e:ba m (dO 1 (some r))=dO 1 (some r):=by simp[dO,ij,V.cl,St.cs,Da.cs,av,aal]
 unfold jL;rw[abF,abF,abF,h m d]
 have a:(ax.loop jK [46] tP tQ (.done .ret)).cl m=.loop jK [46] tP tQ (.done .ret):=by simp[ax.cl,jK,V.cl,show 0<m by omega,show 1<m by omega,show 2<m by omega,show 3<m by omega,show 4<m by omega]
 have f:(ax.cells (dO 1 (some r))).cl m=.cells (dO 1 (some r)):=by rw[ax.cl,e]
 have b:(ax.cells [V.int .i64 0]).cl m=.cells [.int .i64 0]:=by simp[ax.cl,ba,V.cl]
 simp only[ab3,a,f,b]
def zCP[eo G][dK G][aA G][aB G][bV G][dy G][du G][aO G][cV G][cW G][bX G][cP G]
  {N:ae} {v w:List af} {live:Nat} (h:Cv N v w live) (Y:v.length<=maxLen) (Z:w.length<=maxLen) (hk:∀x∈v,x.k<4294967296) (nC:∀x∈w,x.k<4294967296) (gT:live<4294967296)
  (hv:aY v=true) (hw:aY w=true) {r:List Nat} (e:r.length=34) (C:∀x∈r,x<4294967296) {t:Bool} (ht:wu v w live (vV r) (mP (r.drop 18))=t) :
  YS G 14 [.agg (av .u32 r)] N (!t) (if t=true then jL N r else N):=by
 have E:=(aab.1 h.lo).1
 obtain⟨b,H',hy,rfl,rfl⟩:=zFp (R:=λb H'=>b=(!t)/\H'=if t=true then jL N r else N) (G:=G) (args:=[.agg (av .u32 r)]) h.lo rfl (by
  have rt:=eM (k:=.u32) e;have rd:(av .u32 r).drop 34=[]:=aai (by simp[e]);have kk:∀r:ae,(N++r)[N.length]?=r[0]?:=λr=>oT rfl;have k0:∀(r:ae) x,(N++r).set N.length x=N++r.set 0 x:=λr x=>tN rfl x
  have F:∀r:ae,(N++r)[14]?=some (some (.loop jK [46] tP tQ .ready)):=λr=>by rw[aaf E];exact h.lo
  simp[tP,jK,sC,k0,e];refine⟨_,_,_,_,F _,?_⟩;obtain⟨B,g⟩:=bb (N.set 14 (some (.loop jK [46] tP tQ .busy)))
  have d:B.length=N.length:=by rw[g];simp
  rw[aat _ _ E,<-g];have Mg:∀r:ae,(B++r)[N.length]?=r[0]?:=λr=>oT d;have ha:∀r:ae,(B++r)[N.length+1]?=r[1]?:=λr=>rT d 1;have j:∀r:ae,(B++r)[N.length+2]?=r[2]?:=λr=>rT d 2;have M:∀(r:ae) x,(B++r).set (N.length+1) x=B++r.set 1 x:=λr x=>y8 d 1 x;have H:∀(r:ae) x,(B++r).set (N.length+2) x=B++r.set 2 x:=λr x=>y8 d 2 x;have hb:∀r:ae,(B++r)[N.length+1+1]?=r[2]?:=j;have hc:∀(r:ae) x,(B++r).set (N.length+1+1) x=B++r.set 2 x:=H
  have O:∀(a b c:Option ax) (r:ae) h,(B++a::b::c::r)[N.length+1+1]'h=c:=λa b c r h=>(aab.1 (j (a::b::c::r))).2
  have look:∀{p:Nat} {c:List V},N[p]?=some (some (.cells c))->p≠14->∀r:ae,(B++r)[p]?=some (some (.cells c)):=fun{p c} P ay r=>by
   rw[aaf (by rw[d];exact(aab.1 P).1),g,aas (Ne.symm ay)];exact P
  have q0:=look h.b0 ag7;have q1:=look h.b1 ag7;have q2:=look h.b2 ag7;have I:=look h.b3 ag7;have J:∀(r:ae) h,(B++r)[0]'h=some (.cells [.vs (IL v) .no]):=λr h=>(aab.1 (q0 r)).2;have K:∀(r:ae) h,(B++r)[1]'h=some (.cells [.vs (IL w) .no]):=λr h=>(aab.1 (q1 r)).2;have UI:∀(r:ae) h,(B++r)[2]'h=some (.cells [.int .u32 live]):=λr h=>(aab.1 (q2 r)).2;have Mh:∀(r:ae) h,(B++r)[3]'h=some (.cells (dO 0 none)):=λr h=>(aab.1 (I r)).2
  have Q:=Zv e C;have T:=OK (w:=r.drop 18) (by simp[e]) (λx hx=>C x (abi hx));have f:=zxV (G:=G) r e C;have q:=zAn (G:=G) v w live (vV r) (mP (r.drop 18)) Y Z hk nC gT Q T;rw[hv,hw,ht] at q;have s:=Me Q;have u:=JG T;have U:dO 1 (some r)=.int .i64 1::((vV r).cs++(mP (r.drop 18)).cs):=rfl;obtain⟨S,z⟩:=bb ((vV r).cs);obtain⟨D,A⟩:=bb ((mP (r.drop 18)).cs)
  have Sk:∀n,ba n S=S:=λn=>by rw[z];exact lV _ n
  have Dk:∀n,ba n D=D:=λn=>by rw[A];exact Cg _ n
  have Sn:S.map V.jA=S:=by rw[z];exact Qr _
  have Dn:D.map V.jA=D:=by rw[A];exact G9 _
  simp only[FL,SV,DV,aaX] at f q;rw[<-z,<-A] at f q U;rw[<-z] at s;rw[<-A] at u;have St:=aae (i:=18) (l:=S) an;have W:=aae (i:=9) (l:=D) an;have Sd:S.drop 18=[]:=aai an;have Dd:D.drop 9=[]:=aai an;obtain⟨m,L⟩:=bb (dO 0 none)
  have Mi:m.length=28:=by rw[L];rfl
  simp only[<-L] at I Mh;simp[tQ,d,e,rt,<-L];refine au f ?_;simp[d,M,H];simp[d,O,M,H,s,u,St,W,Sk,Dk,Sn,Dn,J,K,UI];refine au q ?_
  have o:∀r:ae,(B++r)[14]?=some (some (.loop jK [46] tP tQ .busy)):=λr=>by
   rw[aaf an,g,aa5 an]
  cases t with
  | false =>
   have iU:∀r:ae,ak N.length ((B++r).set 14 (some (.loop jK [46] tP tQ .ready)))=N:=λr=>by
    rw[aat _ _ an,g,acB,D0 h.lo];exact h.shut.back r
   simp
   exact⟨_,_,_,_,o _,iU _⟩
  | true =>
   simp[d,O,s,u,St,W];have dr:(S++m.drop 19).drop 27=[]:=aai (by simp;omega)
   have ln:(V.int .i64 1::(S++D)).length=28:=by simp;omega
   have tn:(S++D).take 27=S++D:=aae (by simp;omega);have dn:m.drop 28=[]:=aai an;have q4:=look h.b4 ag7;have Hj:∀(r:ae) x,(B++r).set 3 x=B.set 3 x++r:=λr x=>aat _ _ an;have Hk:∀(r:ae) y x,(B.set 3 y++r).set 4 x=(B.set 3 y).set 4 x++r:=λr y x=>aat _ _ (by simp;omega)
   have X:∀(r:ae) y,(B.set 3 y++r)[4]?=some (some (.cells [.int .i64 0])):=λr y=>by
    have:=q4 [];rw[aaf (by simp;omega),aas ag7];simpa using this
   have wz:∀(r:ae) y h,(B.set 3 y++r)[4]'h=some (.cells [.int .i64 0]):=λr y h=>(aab.1 (X r y)).2;simp[Mi,dr,dn,s,u,I,Hj,Hk,X];refine⟨jK,[46],tP,tQ,?_,?_⟩
   .have:=o [];rw[aaW] at this;rw[aaf (by simp;omega),aas ag7,aas ag7];exact this
   .have he:((B.set 3 (some (ax.cells (V.int IntKind.i64 1::(S++D))))).set 4 (some (ax.cells [V.int IntKind.i64 0]))).set 14 (some (.loop jK [46] tP tQ (.done .ret)))=jL N r:=by rw[g,<-U,aby _ _ (show(14:Nat)≠3 by decide),aby _ _ (show(14:Nat)≠4 by decide),acB];rfl
    rw[aat _ _ (by simp;omega),he];have:=(zo3 h.shut E r).back [some (ax.cells (av .u32 r)),some (ax.cells S),some (ax.cells D)]
    rwa[show(jL N r).length=N.length by simp[jL]] at this)
 exact hy
noncomputable def eU(v w:List af)(live:Nat):Int×Option (List Nat) :=
 if(aY v&&aY w)=true then
  if x6 (aQ [] v).p (aQ (aQ [] v).L w).p (aQ [] v).st (aQ (aQ [] v).L w).st live=true then(0,none)
  else match(sY (aQ (aQ [] v).L w).L (aQ [] v).p (aQ (aQ [] v).L w).p live).find? λr=>wu v w live (vV r) (mP (r.drop 18)) with
   | some r=>(1,some r)
   | none=>(2,none)
 else(0,none)
def UJ(a b c d e:List V):ae:=[some (.cells a),some (.cells b),some (.cells c),some (.cells d),some (.cells e),some (.map []),some (.cells [.vs [] (.own 7),.mp 5]),some (.zone 0)]
def zE8{a b c d e:List V}(f:∀n,ba n a=a)(g:∀n,ba n b=b)(i:∀n,ba n c=c)(hd:∀n,ba n d=d)(j:∀n,ba n e=e):Bk (UJ a b c d e) 6 7 5 []:=by refine⟨rfl,rfl,rfl,λn k=>?_,λa h=>(by cases h),ag7⟩;simp only[UJ,aan,abG] at k;simp[UJ,ax.cl,f,g,i,hd,j,ba,V.cl,Tk.cl,show 7<n by omega,show 5<n by omega]
def zG7[cw G](a b c d e:List V):bE G (.F 256 [] [some (.cells a),some (.cells b),some (.cells c),some (.cells d),some (.cells e)] (.ptr 6 0) [some (.cells a),some (.cells b),some (.cells c),some (.cells d),some (.cells e),some (.map []),some (.cells [.vs [] .full,.mp 5])]):=by refine fh cw.adC (aaj rfl) ?_;simp
section
variable {H:ae} {b z m:Nat} {L:List Nd}
noncomputable def yc(L:List Nd)(w:List af):List V:=if aY w=true then vcs (aQ L w).p (aQ L w).st .no else vcs (aaP 18 0) [] .full
noncomputable def Ab(L:List Nd)(w:List af):List Nd:=if aY w=true then(aQ L w).L else L
def zxd[eo G][dK G][aA G][aB G][aO G][ar G][bG G][aL G][cf G](w:List af)(h:Bk H b z m L)(hi:Inv L)(e:L.length<=800000)(c:w.length<=maxLen)(d:∀x∈w,x.k<4294967296) :
  SF G 296 [.ptr b 0,FL w] H (.a_ [.agg (yc L w),.bool (aY w)]) (dD H b z m (Ab L w)):=by
 cases a:aY w with
 | true =>
  have:=zNb (G:=G) w h hi e c d a
  simpa only[yc,Ab,a,if_true] using this
 | false =>
  have:=zNa (G:=G) w h c d a;simpa only[yc,Ab,a,aar,if_false,h.gn] using this
def ztg(hi:Inv L){w:List af}(a:∀x∈w,x.k<4294967296):(yc L w).length=19:=by
 unfold yc;split
 .exact Hg (Cp hi w a).len
 .rfl
def zxe(w:List af)(n:Nat):ba n (yc L w)=yc L w:=by
 unfold yc
 split<;>(rw[ij,vcs];simp[ny,aal,V.cl,Tk.cl])
def zzh(hi:Inv L){w:List af}(a:∀x∈w,x.k<4294967296):Inv (Ab L w):=by
 unfold Ab;split
 .exact(Cp hi w a).ext.inv
 .exact hi
def zzi(hi:Inv L){w:List af}(b:∀x∈w,x.k<4294967296):(Ab L w).length<=L.length+114:=by
 unfold Ab;split
 .rename_i a
  have c:w.length<=32:=by simp only[aY,aak,decide_eq_true_eq] at a;exact a.1
  have:=(Cp hi w b).ext.len;omega
 .omega
end
def zxf(c:Int):(dO c none).length=28:=rfl
def Uo(c:Int)(o:Option (List Nat))(n:Nat):ba n (dO c o)=dO c o:=by cases o<;>simp[dO,ij,V.cl,St.cs,Da.cs,av,aal]
def zzj(c:Int)(o:Option (List Nat)):(dO c o).map V.jA=dO c o:=by cases o<;>simp[dO,V.jA,St.cs,Da.cs,av,aal]
def zCQ(c:Int):(dO c none).take 28=dO c none:=aae (by rw[zxf];exact aav _)
def zG8[eW G](H:ae)(b live:Nat)(a c:List V)(k1:∀n,ba n a=a)(k2:∀n,ba n c=c)(d:a.map V.jA=a)(e:c.map V.jA=c) :
  bE G (.F 311 [.ptr b 0,.agg a,.agg c,.int .u32 live] H (.fn 310 [.ptr (H.length+3) 0,.ptr H.length 0,.ptr (H.length+1) 0,.ptr (H.length+2) 0])
   (H++[some (.cells [.ptr b 0]),some (.cells a),some (.cells c),some (.cells [.int .u32 live])])):=by
 refine fh eW.afc (aaj rfl) ?_;simp
def zuF[eo G][dK G][aA G][aB G][bV G][dy G][du G][aO G][cV G][cW G][bX G][cf G][bO G][ar G][Dx:dQ G][cw G][aL G][bW G][cP G][eW G]
  (v w:List af) (live:Nat) (hf:v.length<=maxLen) (hg:w.length<=maxLen) (H:∀x∈v,x.k<4294967296) (I:∀x∈w,x.k<4294967296) (gT:live<4294967296) :
  FP G 312 [FL v,FL w,.int .u32 live] (.a_ [.agg (dO (eU v w live).1 (eU v w live).2),.int .i64 (if(aY v&&aY w)=true then 0 else 1)]):=by
 haveI:bG G:=Dx.tobG
 refine bt eW.afd (aaj rfl) ?_;obtain⟨Z,hZ⟩:∃Z:List V,Z=vcs (aaP 18 0) [] .full:=⟨_,rfl⟩
 have lZ:Z.length=19:=by rw[hZ];rfl
 have eB:Z.drop 19=[]:=aai an
 have JV:[V.int .i64 0,.int .i64 0,.int .i64 0,.int .i64 0,.int .i64 0,.int .i64 0,.int .i64 0,.int .i64 0,.int .i64 0,.int .i64 0,.int .i64 0,.int .i64 0,.int .i64 0,.int .i64 0,.int .i64 0,.int .i64 0,.int .i64 0,.int .i64 0,.vs [] .full]=Z:=by rw[hZ];rfl
 obtain⟨m,B⟩:∃m:List V,m=dO 0 none:=⟨_,rfl⟩
 have hm:V.int .i64 0::(av .u32 (aP 20)++av .u64 (aP 7))=m:=by rw[B];rfl
 have Mi:m.length=28:=by rw[B];rfl
 have UK:∀n,ba n m=m:=λn=>by rw[B];simp[dO,ij,V.cl,av,aal]
 have O:=zE8 (a:=[.vs (IL v) .no]) (b:=[.vs (IL w) .no]) (c:=[.int .u32 live]) (d:=m) (e:=[.int .i64 0]) (λn=>by simp[ba,V.cl,Tk.cl]) (λn=>by simp[ba,V.cl,Tk.cl]) (λn=>by simp[ba,V.cl]) UK (λn=>by simp[ba,V.cl]);obtain⟨j,D⟩:=bb (UJ [.vs (IL v) .no] [.vs (IL w) .no] [.int .u32 live] m [.int .i64 0]);rw[<-D] at O
 have W:j.length=8:=by rw[D];rfl
 have t0:∀r,ak 8 (j++r)=j:=λr=>by have:=O.shut.back r;rwa[W] at this
 have a8:∀r:ae,(j++r)[8]?=r[0]?:=λr=>oT W;have a9:∀r:ae,(j++r)[9]?=r[1]?:=λr=>rT W 1;have b8:∀(r:ae) x,(j++r).set 8 x=j++r.set 0 x:=λr x=>tN W x;have b9:∀(r:ae) x,(j++r).set 9 x=j++r.set 1 x:=λr x=>y8 W 1 x
 have o0:∀r:ae,(j++r)[0]?=some (some (.cells [.vs (IL v) .no])):=λr=>by rw[D];rfl
 have o1:∀r:ae,(j++r)[1]?=some (some (.cells [.vs (IL w) .no])):=λr=>by rw[D];rfl
 have o3:∀r:ae,(j++r)[3]?=some (some (.cells m)):=λr=>by rw[D];rfl
 have o4:∀r:ae,(j++r)[4]?=some (some (.cells [.int .i64 0])):=λr=>by rw[D];rfl
 have ho:Bk (j++[none]) 6 7 5 []:=O.app λn=>by simp
 simp[FL,hm];refine u5 (zG7 [.vs (IL v) .no] [.vs (IL w) .no] [.int .u32 live] m [.int .i64 0]) ir ?_;simp;rw[show([some (.cells [.vs (IL v) .no]),some (.cells [.vs (IL w) .no]),some (.cells [.int .u32 live]),some (.cells m),some (.cells [.int .i64 0]),some (.map []),some (.cells [.vs [] (.own 7),.mp 5]),some (.zone 0),none]:ae)=j++[none] from by rw[D];rfl];obtain⟨o,u9⟩:=bb (Ab [] v)
 obtain⟨f,UL⟩:=bb (yc [] v)
 have i1:Inv o:=by rw[u9];exact zzh Inv.nil H
 have z1:o.length<=114:=by rw[u9];simpa using zzi Inv.nil H
 have x1:f.length=19:=by rw[UL];exact ztg Inv.nil H
 have c1:∀n,ba n f=f:=λn=>by rw[UL];exact zxe v n
 have mK:=zxd (G:=G) v ho Inv.nil ag7 hf H;rw[<-u9,<-UL,O.cu] at mK;obtain⟨U,hU⟩:=bb (dD j 6 7 5 o)
 have UM:Bk U 6 7 5 o:=by rw[hU];exact O.to i1 an
 rw[<-hU] at mK
 have Y:U.length=8:=by rw[hU,sJ,W]
 have Hm:∀{p:Nat} {c:List V},(j++[])[p]?=some (some (.cells c))->p≠6->U[p]?=some (some (.cells c)):=fun{p c} J ay=>by
  rw[hU];exact zty O (by simpa using J) ay
 obtain⟨u,UO⟩:=bb (Ab o w);obtain⟨g,QC⟩:=bb (yc o w)
 have i2:Inv u:=by rw[UO];exact zzh i1 I
 have z2:u.length<=228:=by rw[UO];have:=zzi i1 I;omega
 have x2:g.length=19:=by rw[QC];exact ztg i1 I
 have c2:∀n,ba n g=g:=λn=>by rw[QC];exact zxe w n
 have hq:Bk (U++[some (.cells f),none]) 6 7 5 o:=UM.app λn=>by simp[ax.cl,c1]
 have Fq:=zxd (G:=G) w hq i1 an hg I;rw[<-UO,<-QC,UM.cu] at Fq;obtain⟨T,hT⟩:=bb (dD U 6 7 5 u)
 have hs:Bk T 6 7 5 u:=by rw[hT];exact UM.to i2 an
 rw[<-hT] at Fq
 have l:T.length=8:=by rw[hT,sJ,Y]
 have wB:∀{p:Nat} {c:List V},(j++[])[p]?=some (some (.cells c))->p≠6->T[p]?=some (some (.cells c)):=fun{p c} J ay=>by
  rw[hT];exact zty UM (Hm J ay) ay
 have Mj:∀{A:ae} {p:Nat} {c:List V},A[p]?=some (some (.cells c))->∀r:ae,(A++r)[p]?=some (some (.cells c)):=fun{A p c} J r=>by
  rw[aaf (aab.1 J).1];exact J
 have u1:=Mj (Hm (o1 []) ag7);have ht:∀(r:ae) h,(U++r)[1]'h=some (.cells [.vs (IL w) .no]):=λr h=>(aab.1 (u1 r)).2;have q0:=Mj (wB (o0 []) ag7);have q1:=Mj (wB (o1 []) ag7);have q2:=Mj (wB (c:=[.int .u32 live]) (p:=2) (by rw[D];rfl) ag7);have q3:=Mj (wB (o3 []) ag7);have q4:=Mj (wB (o4 []) ag7);have h0:∀(r:ae) h,(T++r)[0]'h=some (.cells [.vs (IL v) .no]):=λr h=>(aab.1 (q0 r)).2
 have h3:∀(r:ae) h,(T++r)[1]'h=some (.cells [.vs (IL w) .no]):=λr h=>(aab.1 (q1 r)).2;have UI:∀(r:ae) h,(T++r)[2]'h=some (.cells [.int .u32 live]):=λr h=>(aab.1 (q2 r)).2;have Mh:∀(r:ae) h,(T++r)[3]'h=some (.cells m):=λr h=>(aab.1 (q3 r)).2;have h4:∀(r:ae) h,(T++r)[4]'h=some (.cells [.int .i64 0]):=λr h=>(aab.1 (q4 r)).2;have h5:∀r:ae,(U++r)[8]?=r[0]?:=λr=>oT Y;have h6:∀r:ae,(U++r)[9]?=r[1]?:=λr=>rT Y 1
 have hu:∀(r:ae) x,(U++r).set 8 x=U++r.set 0 x:=λr x=>tN Y x;have h7:∀(r:ae) x,(U++r).set 9 x=U++r.set 1 x:=λr x=>y8 Y 1 x;have h8:∀r:ae,(T++r)[8]?=r[0]?:=λr=>oT l;have h9:∀r:ae,(T++r)[9]?=r[1]?:=λr=>rT l 1;have xa:∀(r:ae) x,(T++r).set 8 x=T++r.set 0 x:=λr x=>tN l x;have hy:∀(r:ae) x,(T++r).set 9 x=T++r.set 1 x:=λr x=>y8 l 1 x;have d1:f.drop 19=[]:=aai an;have d2:g.drop 19=[]:=aai an
 have e1:f.take 19=f:=aae an;have e2:g.take 19=g:=aae an;simp only[FL] at mK Fq;refine cN mK ?_;simp[Y,hu,JV,lZ,eB,x1,ht];refine cN Fq ?_;simp[l,hy,lZ,eB,x2]
 have ah:∀p,p<8->p<T.length:=λp J=>by omega
 have Hj:∀(r:ae) x,(T++r).set 3 x=T.set 3 x++r:=λr x=>aat _ _ an;have Hk:∀(r:ae) y x,(T.set 3 y++r).set 4 x=(T.set 3 y).set 4 x++r:=λr y x=>aat _ _ (by simp;omega)
 have hz:∀(r:ae) y x,((T.set 3 y).set 4 x++r)[3]?=some y:=λr y x=>by
  rw[aaf (by simp;omega),aas ag7,aa5 an]
 have hA:∀(r:ae) y x,((T.set 3 y).set 4 x++r)[4]?=some x:=λr y x=>by
  rw[aaf (by simp;omega),aa5 (by simp;omega)]
 have Fp:∀(r:ae) y,(T.set 3 y++r)[4]?=some (some (.cells [.int .i64 0])):=λr y=>by
  have:=q4 [];rw[aaf (by simp;omega),aas ag7];simpa using this
 have wz:∀(r:ae) y h,(T.set 3 y++r)[4]'h=some (.cells [.int .i64 0]):=λr y h=>(aab.1 (Fp r y)).2;have Cw:∀(r:ae) y x h,((T.set 3 y).set 4 x++r)[3]'h=y:=λr y x h=>(aab.1 (hz r y x)).2;have Cx:∀(r:ae) y x h,((T.set 3 y).set 4 x++r)[4]'h=x:=λr y x h=>(aab.1 (hA r y x)).2;have K:m.take 28=m:=aae an;have UP:m.drop 28=[]:=aai an
 have M:m.map V.jA=m:=by rw[B];simp[dO,av,aal,V.jA]
 cases C:aY v with
 | false =>
  have hd:eU v w live=(0,none):=by simp[eU,C]
  simp[hd,<-B,l,Mh,Mi,Hj,Hk,K,UP,wz,Cw,Cx,UK,M]
 | true =>
 cases hw:aY w with
 | false =>
  have hd:eU v w live=(0,none):=by simp[eU,C,hw]
  simp[hd,<-B,l,Mh,Mi,Hj,Hk,K,UP,wz,Cw,Cx,UK,M]
 | true =>
 have UQ:f=vcs (aQ [] v).p (aQ [] v).st .no:=by rw[UL,yc,if_pos C]
 have hC:o=(aQ [] v).L:=by rw[u9,Ab,if_pos C]
 have UR:g=vcs (aQ o w).p (aQ o w).st .no:=by rw[QC,yc,if_pos hw]
 have hF:u=(aQ o w).L:=by rw[UO,Ab,if_pos hw]
 have k1:=Cp Inv.nil v H;have k2:=Cp i1 w I;have s:eU v w live=eU v w live:=rfl
 conv at s=>rhs;rw[eU,C,hw,if_pos (show(true&&true)=true from rfl),<-hC,<-hF]
 obtain⟨P,hP⟩:=bb ((aQ [] v).p);obtain⟨S,hS⟩:=bb ((aQ [] v).st);obtain⟨Q,hQ⟩:=bb ((aQ o w).p);obtain⟨R,hR⟩:=bb ((aQ o w).st)
 have pl:P.length=18:=by rw[hP];exact k1.len
 have ql:Q.length=18:=by rw[hQ];exact k2.len
 have sl:S.length<=1000000:=by
  have qB:v.length<=32:=by simp only[aY,aak,decide_eq_true_eq] at C;exact C.1
  have:=k1.st;rw[hS];omega
 rw[<-hP,<-hQ,<-hS,<-hR] at s;rw[<-hP,<-hS] at UQ;rw[<-hQ,<-hR] at UR;have ha:=zG6 (G:=G) P Q S R live gT pl ql sl;rw[<-UQ,<-UR] at ha
 have m1:f.map V.jA=f:=by rw[UQ];simp[vcs,ny,aal,V.jA]
 have m2:g.map V.jA=g:=by rw[UR];simp[vcs,ny,aal,V.jA]
 simp[l,UI,x1,x2,e1,e2,m1,m2,c1,c2];refine au ha ?_
 cases AT:x6 P Q S R live with
 | true =>
  rw[AT,if_pos rfl] at s
  have At:V.int .i64 0::m.tail=m:=by rw[B];rfl
  simp[s,<-B,l,Mh,Mi,Hj,Hk,K,UP,wz,Cw,Cx,UK,M,At]
 | false =>
  rw[AT] at s;simp only[aar,if_false] at s;simp[l,UI,x1,x2,e1,e2]
  have hG:(T++[some (ax.cells f),some (ax.cells g)]).length=10:=by simp[l]
  have zN:=zG8 (G:=G) (T++[some (ax.cells f),some (ax.cells g)]) 6 live f g c1 c2 m1 m2;rw[hG,aap] at zN;refine u5 zN ir ?_;simp;subst B;obtain⟨E,hE⟩:=bb (T++[some (ax.cells f),some (ax.cells g),some (.cells [.ptr 6 0]),some (.cells f),some (.cells g),some (.cells [.int .u32 live])])
  have t:E.length=14:=by rw[hE];simp[l]
  obtain⟨i,F⟩:=bb (E++[some (ax.loop jK [46] tP tQ .ready)])
  have xb:i.length=15:=by rw[F];simp[t]
  have z:i=T++[some (ax.cells f),some (ax.cells g),some (.cells [.ptr 6 0]),some (.cells f),some (.cells g),some (.cells [.int .u32 live]),some (ax.loop jK [46] tP tQ .ready)]:=by rw[F,hE];simp
  have N:Bk E 6 7 5 u:=by rw[hE];refine hs.rB λn hn=>?_;simp[l] at hn;simp[ax.cl,c1,c2,ba,V.cl,show 6<n by omega]
  have UT:Bk i 6 7 5 u:=by rw[F];refine N.rB λn hn=>?_;simp[t] at hn;simp[ax.cl,jK,V.cl,show 0<n by omega,show 1<n by omega,show 2<n by omega,show 3<n by omega,show 4<n by omega]
  have hb:i[14]?=some (some (.loop jK [46] tP tQ .ready)):=by rw[F];exact oT t
  have hc:Cv i v w live:=⟨by rw[z];exact q0 _,by rw[z];exact q1 _,by rw[z];exact q2 _,by rw[z];exact q3 _,by rw[z];exact q4 _,hb,UT.shut⟩
  have hH:i[10]?=some (some (.cells [.ptr 6 0])):=by rw[z];exact rT l 2
  have hI:i[11]?=some (some (.cells (vcs P S .no))):=by rw[z,<-UQ];exact rT l 3
  have hJ:i[12]?=some (some (.cells (vcs Q R .no))):=by rw[z,<-UR];exact rT l 4
  have hK:i[13]?=some (some (.cells [.int .u32 live])):=by rw[z];exact rT l 5
  have qa:=zCN (G:=G) UT i2 (id:=14) (i1:=13) (i2:=10) (i3:=11) (i4:=12) (live:=live) gT hK hH hI hJ pl ql an (hit:=λr=>wu v w live (vV r) (mP (r.drop 18))) (H':=jL i)
   (λr hr hh X hX=>by
    obtain⟨m9,vj⟩:=UH hr;have:=zCP (G:=G) (hc.app hX) hf hg H I gT C hw m9 vj hh
    simpa using this)
   (λr hr hh X hX=>by
    obtain⟨m9,vj⟩:=UH hr;have:=zCP (G:=G) (hc.app hX) hf hg H I gT C hw m9 vj hh;rw[zE7 an] at this
    simpa using this)
   (λr hr hh=>⟨by
    have:=(zo3 UT.shut an r).self
    rwa[show(jL i r).length=i.length by simp[jL]] at this,by simp[jL]⟩)
  rw[<-hE];have he:=N.shut.self;rw[t] at he
  have qF:look (ig [(3,V.ptr 0 0),(4,V.ptr 1 0),(5,V.ptr 2 0),(6,V.ptr 3 0),(7,V.ptr 4 0),(45,V.fn 310 [V.ptr 13 0,V.ptr 10 0,V.ptr 11 0,V.ptr 12 0])]) [3,4,5,6,7]=jK:=by simp[jK]
  cases pj:(sY u P Q live).find? (λr=>wu v w live (vV r) (mP (r.drop 18))) with
  | none =>
   rw[pj] at qa s
   have hL:ak 14 i=E:=by rw[F];have:=N.shut.back [some (ax.loop jK [46] tP tQ .ready)];rwa[t] at this
   refine QA (as:=tP) (bo:=tQ) (x:=.nx) (H2:=i) (r:=.a_ []) ?_ (by rw[t];exact hb) (.inl ⟨rfl,rfl⟩) ?_
   .rw[t];rw[F] at qa;rw[F,qF];exact qa
   rw[t,hL,hE];simp only[] at s;have At:∀c,V.int .i64 c::(dO 0 none).tail=dO c none:=λc=>rfl
   simp[s,l,Mh,Mi,Hj,Hk,UP,wz,Cw,Cx,At,zxf,Uo,zzj,zCQ]
  | some r =>
   rw[pj] at qa s;obtain⟨m9,vj⟩:=UH (abV pj)
   have lA:(dO 1 (some r)).length=28:=by have h1:=Me (Zv m9 vj);have h2:=JG (OK (w:=r.drop 18) (by simp[m9]) (λx hx=>vj x (abi hx)));simp only[dO,aan,aao,h1,h2]
   obtain⟨q,Co⟩:=bb (dO 1 (some r))
   have hj:∀n,ba n q=q:=λn=>by rw[Co];exact Uo _ _ n
   have hM:q.map V.jA=q:=by rw[Co];exact zzj _ _
   rw[<-Co] at lA;have hN:q.take 28=q:=aae an
   have hO:jL i r=((T.set 3 (some (.cells q))).set 4 (some (.cells [.int .i64 0])))++[some (ax.cells f),some (ax.cells g),some (.cells [.ptr 6 0]),some (.cells f),some (.cells g),some (.cells [.int .u32 live]),some (.loop jK [46] tP tQ (.done .ret))]:=by rw[z,jL,<-Co,Hj,Hk];rw[aba _ _ (by simp;omega)];simp[l]
   have fM:=zo3 UT.shut an r
   have hV:(jL i r)[14]?=some (some (.loop jK [46] tP tQ (.done .ret))):=by unfold jL;exact aa5 (by simp;omega)
   have QD:ak 14 (jL i r)=((T.set 3 (some (.cells q))).set 4 (some (.cells [.int .i64 0])))++[some (ax.cells f),some (ax.cells g),some (.cells [.ptr 6 0]),some (.cells f),some (.cells g),some (.cells [.int .u32 live])]:=by
    have hW:E.map (aau (ax.cl 14))=E:=by have:=he;unfold ak at this;rwa[aae an] at this
    have hY:ak 14 ((E.set 3 (some (.cells q))).set 4 (some (.cells [.int .i64 0])))=(E.set 3 (some (.cells q))).set 4 (some (.cells [.int .i64 0])):=by unfold ak;rw[aae (by simp;omega),abF,abF,hW];simp[ax.cl,hj,ba,V.cl]
    have hl:(E.set 3 (some (.cells q))).set 4 (some (.cells [.int .i64 0]))=((T.set 3 (some (.cells q))).set 4 (some (.cells [.int .i64 0])))++[some (ax.cells f),some (ax.cells g),some (.cells [.ptr 6 0]),some (.cells f),some (.cells g),some (.cells [.int .u32 live])]:=by rw[hE,Hj,Hk]
    have rQ:jL i r=((E.set 3 (some (.cells q))).set 4 (some (.cells [.int .i64 0])))++[some (.loop jK [46] tP tQ (.done .ret))]:=by rw[hl,hO];simp
    rw[rQ,Qu hY (by simp;exact t),hl]
   refine QA (as:=tP) (bo:=tQ) (x:=.ret) (H2:=jL i r) (r:=.a_ []) ?_ (by rw[t];exact hV) (.inr ⟨rfl,ag7⟩) ?_
   .rw[t];rw[qF,<-F];exact qa
   rw[t,QD];simp only[] at s;simp[s,l,lA,hN,hj,hM,Cw,Cx,<-Co]
open Go Go.RowKit
variable {G:aK}
def zCR{v w:List af}{live:Nat}{s:St}{d:Da}(l:∀x∈v,x.k<4294967296)(m:∀x∈w,x.k<4294967296)(f:s.ok)(hd:d.ok)(I:aY v=true)(J:aY w=true)
  (h:x6 (aQ [] v).p (aQ (aQ [] v).L w).p (aQ [] v).st (aQ (aQ [] v).L w).st live=true):wu v w live s d=false:=by
 have z:=Cp Inv.nil v l;have K:=Cp z.ext.inv w m;have o:=(Uk Inv.nil f hd l I).ext K.ext;have g:=Uk z.ext.inv f hd m J;obtain⟨M,r⟩:=zo2.1 h;have N:=GD d v s;have O:=GD d w s;rw[<-r] at g
 have c:∀{p q:List Int} {st:List Int} {a b:List af} {L:List Nd},WV (eZ s d) L p st a d s->WV (eZ s d) L q st b d s->(cd d a s).2<a.length->(cd d b s).2<=b.length->(cd d b s).2<b.length:=fun{p q st a b L} A B P t=>by
  rcases Nat.lt_or_ge (cd d b s).2 b.length with h|h
  .exact h
  .exfalso;have Q:(cd d b s).2=b.length:=Nat.le_antisymm t h;obtain⟨x,C,_,R⟩:=A.stop P;have D:=(aab.1 C).1;rw[B.num,<-Q] at D;obtain⟨y,n,E,_,F,S⟩:=B.ahead _ D;rw[C] at E;cases E;rw[R] at F;cases F;exact S rfl
 unfold wu
 by_cases i:(cd d v s).2<v.length
 .have u:=c o g i O;simp[i,u]
 .have u:¬(cd d w s).2<w.length:=λh=>i (c g o h N);rw[if_neg (by simp[i,u])];have T:=o.done an;have U:=g.done an;refine zuD λj e=>?_;unfold y9
  cases V:z_ live j with
  | false=>rfl
  | true =>
   have G:=M j e;simp only[Cu,V,aaX,bne_eq_false_iff_eq] at G;have W:=GF hd v s f l;have X:=GF hd w s f m;rw[aaX,bne_eq_false_iff_eq,zxb W e,zxb X e];have H:=(T.val j e).2;have Y:=(U.val j e).2;rw[G,Y] at H;exact(ab5.inj H).symm
def pT{v w:List af}{live:Nat}(d:aY v=true)(e:aY w=true) :
  eU v w live=(0,none)/\x6 (aQ [] v).p (aQ (aQ [] v).L w).p (aQ [] v).st (aQ (aQ [] v).L w).st live=true \/
  (∃r,eU v w live=(1,some r)/\r∈sY (aQ (aQ [] v).L w).L (aQ [] v).p (aQ (aQ [] v).L w).p live/\wu v w live (vV r) (mP (r.drop 18))=true/\x6 (aQ [] v).p (aQ (aQ [] v).L w).p (aQ [] v).st (aQ (aQ [] v).L w).st live=false) \/
  eU v w live=(2,none)/\(∀r∈sY (aQ (aQ [] v).L w).L (aQ [] v).p (aQ (aQ [] v).L w).p live,wu v w live (vV r) (mP (r.drop 18))=false)/\x6 (aQ [] v).p (aQ (aQ [] v).L w).p (aQ [] v).st (aQ (aQ [] v).L w).st live=false:=by
 have a:eU v w live=eU v w live:=rfl
 conv at a=>rhs;rw[eU,d,e,if_pos (show(true&&true)=true from rfl)]
 cases c:x6 (aQ [] v).p (aQ (aQ [] v).L w).p (aQ [] v).st (aQ (aQ [] v).L w).st live with
 | true =>
  rw[c,if_pos rfl] at a
  exact .inl ⟨a,rfl⟩
 | false =>
  rw[c] at a;simp only[aar,if_false] at a
  cases b:(sY (aQ (aQ [] v).L w).L (aQ [] v).p (aQ (aQ [] v).L w).p live).find? (λr=>wu v w live (vV r) (mP (r.drop 18))) with
  | none =>
   rw[b] at a;refine .inr (.inr ⟨a,λr f=>?_,rfl⟩);have:=abS.1 b r f
   simpa using this
  | some r =>
   rw[b] at a;have g:=ack b;exact .inr (.inl ⟨r,a,abV b,g,rfl⟩)
def zAq{r:List Nat}(b:r.length=34)(d:∀x∈r,x<4294967296)(c:Int):(dO c (some r)).length=28/\(dO c (some r)).tail.take 18=(vV r).cs/\(dO c (some r)).drop 19=(mP (r.drop 18)).cs:=by
 have a:=Me (Zv b d);have e:=JG (OK (w:=r.drop 18) (by simp[b]) (λx f=>d x (abi f)));refine⟨by simp only[dO,aan,aao,a,e],?_,?_⟩
 .simp only[dO,acp];rw[abB a]
 .simp only[dO];rw[abJ,abD a]
def zzk(c:Int)(o:Option (List Nat)):(dO c o).take 1=[.int .i64 c]:=by cases o<;>rfl
def zxg(v w:List af)(live:Nat):(dO (eU v w live).1 (eU v w live).2).length=28:=by
 cases a:aY v&&aY w with
 | false =>
  have b:eU v w live=(0,none):=by simp[eU,a]
  rw[b];rfl
 | true =>
  simp only[aak] at a
  rcases pT (live:=live) a.1 a.2 with⟨e,_⟩|⟨r,e,c,_,_⟩|⟨e,_,_⟩
  .rw[e];rfl
  .obtain⟨d,f⟩:=UH c;rw[e];exact(zAq d f 1).1
  .rw[e];rfl
def Qe{x:af}(h:mO x=true):x.op≠5/\aX x.op=false/\x.op≠6/\x.op≠22:=by simp only[mO,aak] at h;obtain⟨b,c,a⟩:=Y9 h.1.1;simp only[gu,decide_eq_false_iff_not,not_or] at a;exact⟨b,c,a.1,a.2⟩
def zAr{x:af}(h:mO x=true)(s:St):goes s x=0:=by obtain⟨a,b,_⟩:=Qe h;simp[goes,a,b]
def zth(d:Da)(g:List af):∀(w:List af) (s:St),(∀x∈w,mO x=true) ->
  run d (w++g) s=if(cd d w s).2<w.length then(0,(cd d w s).2+1) else((run d g (cd d w s).1).1,w.length+(run d g (cd d w s).1).2)
 | [],s,_=>by simp[cd]
 | x::w,s,h=>by
  have b:=h x ir;obtain⟨k,l,e,f⟩:=Qe b;have i:=zth d g w (ef s x d).1 λy j=>h y (by simp[j]);rw[List.cons_append,yU,if_neg e,if_neg f,zAr b,acv]
  by_cases a:(ef s x d).2=true
  .rw[if_pos a,i];simp only[cd,a,if_true,aan]
   by_cases c:(cd d w (ef s x d).1).2<w.length
   .rw[if_pos c,if_pos an]
   .rw[if_neg c,if_neg an];simp only[Prod.mk.injEq,true_and];omega
  .rw[if_neg a];simp only[cd,a,if_false,aan,aar];rw[if_pos an]
def zuG{d:Da}:∀(w:List af) (s:St),(∀x∈w,mO x=true)->(cd d w s).2<w.length->0<kj w w.length
 | [],s,_,h=>by simp[cd] at h
 | x::w,s,a,h=>by
  rw[aan,Mc]
  by_cases b:(ef s x d).2=true
  .have:=zuG (d:=d) w (ef s x d).1 (λy c=>a y (by simp[c])) (by simp only[cd,b,if_true,aan] at h;omega);omega
  .have:=(zw9 (a x ir) (by simpa using b)).1;rw[if_pos this];omega
def zE9(a e b i:Nat)(s:St)(x:af)(d:Da):ef s (dY a e b i x) d=ef s x d:=by
 by_cases c:x.op=5
 .have f:bg (5:Int)=(0,false,false):=by decide
  have g:(dY a e b i x).op=5:=by rw[Lf,c]
  have o:∀y:af,y.op=5->ef s y d=(s,true):=λy h=>by
   simp only[ef,h,f,aar,if_false,iE];simp
  rw[o _ g,o _ c]
 .unfold dY;rw[if_neg c]
  split<;>rfl
def Cy(a e b i:Nat)(s:St){x:af}(h:gu x.op=false)(hi:i<a):goes s (dY a e b i x)=dX a e b i (goes s x)\/goes s x=0/\goes s (dY a e b i x)=0:=by
 have d:=Lf a e b i x
 by_cases c:x.op=5
 .left;simp only[goes,d,c,if_true];simp[dY,c]
 by_cases f:aX x.op=true
 .left
  have g:dY a e b i x={ x with jt:=(dX a e b i x.jt.toNat:Nat),jf:=(dX a e b i x.jf.toNat:Nat) }:=by rw[dY,if_neg c,if_pos f]
  have j:dc s (dY a e b i x)=dc s x:=by rw[g];rfl
  simp only[goes,d,if_neg c,f,if_true,j];rw[g]
  cases dc s x<;>simp
 .right;simp[goes,d,c,f]
def zIy(g:List af):bh g [0]=nd g:=by
 funext p
 simp[bh]
def zp7{f w:List af}{a n t:Nat}(b:t<a){x:af}(c:f[t]?=some x):(fi f a n w).drop t=dY a (a+n) (n-w.length) t x::(fi f a n w).drop (t+1):=by
 have d:(fi f a n w)[t]?=some (dY a (a+n) (n-w.length) t x):=by rw[fi,aap,aaf (by rw[GG];exact b),pre,abt,List.getElem?_range b];simp[aaT,c]
 obtain⟨g,e⟩:=aab.1 d;rw[aaJ g,e]
def zti(f w:List af)(a n:Nat):(fi f a n w).drop a=w++f.drop (a+n):=by rw[fi,aap,abD (GG _ _ _ _ _)]
def zp8{f w:List af}{a n t:Nat}(b:w.length<=n)(h:a+n<=t):(fi f a n w).drop (t-(n-w.length))=f.drop t:=by
 have e:t-(n-w.length)=a+(w.length+(t-(a+n))):=an
 rw[e,<-abe,zti,<-abe,abD rfl,abe]
 congr 1
 omega
def zxh{s:St}{d:Da}(a:s.ok){i:Nat}(hi:i<18):(eZ s d).getD i 0=part s i:=by
 have b:=a.2.2.1
 match i,hi with
 | 0,_=>rfl
 | 1,_=>rfl
 | i+2,h =>
  simp only[eZ,part];rw[aag,aaN,aaN,aaf an,<-aag]
def zsi{f w:List af}{a n live:Nat}{d:Da}(K:dE f=true)(y:sQ f a n=true)(Y:0<n)(Z:a+n<=f.length)(L:aY w=true)(M:w.length<=n)
  (z:∀x∈f,x.k<4294967296) (N:∀x∈w,x.k<4294967296) (hd:d.ok) (O:∀p<18,nd (f.drop (a+n)) p=true->z_ live p=true)
  (P:∀s:St,s.ok->wu ((f.drop a).take n) w live s d=false) :
  ∀(m t:Nat) (s:St),f.length-t<=m->t<f.length->(t<=a\/a+n<=t)->s.ok ->
   (run d ((fi f a n w).drop (if t<=a then t else t-(n-w.length))) s).1=(run d (f.drop t) s).1 /\
   ((run d ((fi f a n w).drop (if t<=a then t else t-(n-w.length))) s).2<=(run d (f.drop t) s).2\/0<kj ((f.drop a).take n) n)
 | 0,t,s,h1,Q,_,_=>by omega
 | m+1,t,s,h1,Q,h3,A=>by
  have r:((f.drop a).take n).length=n:=by rw[aaB,List.length_drop];omega
  by_cases R:t<=a
  case neg =>
   have h4:a+n<=t:=an
   rw[if_neg R,zp8 M h4];exact⟨rfl,.inl (aav _)⟩
  rw[if_pos R]
  by_cases sV:t=a
  .subst sV
   have S:∀x∈(f.drop t).take n,mO x=true:=by simp only[sQ,aak] at y;exact IZ y.1
   have E:f.drop t=(f.drop t).take n++f.drop (t+n):=by rw[<-abe,ab6]
   have c:=P s A;have n1:=GD d ((f.drop t).take n) s;have n2:=GD d w s;have T:=zth d (f.drop (t+n)) ((f.drop t).take n) s S;rw[<-E,r] at T;rw[r] at n1;rw[zti,T,zth d _ w s (IZ L)];unfold wu at c;rw[r] at c
   by_cases g:(cd d ((f.drop t).take n) s).2<n
   .have i:(cd d w s).2<w.length:=by rw[if_pos (.inl g)] at c;simpa[g] using c
    rw[if_pos g,if_pos i];refine⟨rfl,.inr ?_⟩;have:=zuG ((f.drop t).take n) s S (by rw[r];exact g);rwa[r] at this
   .have i:¬(cd d w s).2<w.length:=λi=>by
     rw[if_pos (.inr i)] at c;simp[g,i] at c
    rw[if_neg (by simp[g,i])] at c;rw[if_neg g,if_neg i];have U:=GF hd _ s A (OL z t n);have V:=GF hd _ s A N
    have ag:=ztR d hd _ (f.drop (t+n)) (cd d w s).1 (cd d ((f.drop t).take n) s).1 (aav _) V U (λx j=>z x (abi j)) λp B lH=>by
     have C:=O p B lH
     rcases Bool.eq_false_or_eq_true (y9 live (eZ (cd d ((f.drop t).take n) s).1 d) (eZ (cd d w s).1 d) p) with h|h
     .rw[zsg B h] at c;cases c
     .rw[y9,C,aaX,bne_eq_false_iff_eq,zxh U B,zxh V B] at h;exact h.symm
    rw[ag];exact⟨rfl,.inl (by simp only;omega)⟩
  .have F:t<a:=an
   obtain⟨x,j⟩:∃x,f[t]?=some x:=⟨_,aah Q⟩
   have E:f.drop t=x::f.drop (t+1):=by obtain⟨hl,e⟩:=aab.1 j;rw[aaJ hl,e]
   rw[zp7 F j,E,yU,yU,Lf,zE9]
   by_cases l:x.op=6
   .have:(dY a (a+n) (n-w.length) t x).k=x.k:=by
     have:aX (6:Int)=false:=by decide
     simp[dY,l,this]
    rw[if_pos l,if_pos l,this];exact⟨rfl,.inl (aav _)⟩
   rw[if_neg l,if_neg l]
   by_cases u:x.op=22
   .rw[if_pos u,if_pos u];exact⟨rfl,.inl (aav _)⟩
   rw[if_neg u,if_neg u]
   by_cases D:(ef s x d).2=true
   case neg =>
    rw[if_neg D,if_neg D];exact⟨rfl,.inl (aav _)⟩
   rw[if_pos D,if_pos D]
   have G:gu x.op=false:=by simp[gu,l,u]
   have b:=SU G s;have W:=Gz K j b;obtain⟨q,H⟩:=bb (goes s x);rw[<-H] at b W |-
   have I:t+1+q<=a\/a+n<=t+1+q:=by
    by_cases v:t+1+q<=a
    .exact .inl v
    .by_cases uu:a+n<=t+1+q
     .exact .inr uu
     .exfalso;have o:=zBG y j (t:=t+1+q) an an;unfold aW at b;rw[G] at b;simp only[aar,if_false] at b;unfold Ar at o
      by_cases J:x.op=5
      .rw[if_pos J,abT] at b;rw[if_pos J,b] at o;simp at o
      .rw[if_neg J] at b o
       cases C:aX x.op with
       | true =>
        rw[C] at b o;simp only[if_true,aaG,aaH,or_false] at b;simp only[aaX,ab8,decide_eq_false_iff_not] at o
        omega
       | false =>
        rw[C] at b;simp only[aar,if_false,abT] at b;omega
   have X:=zsi K y Y Z L M z N hd O P m (t+1+q) (ef s x d).1 an W I (IT A (z x (aaA j)) hd)
   have fM:t+1+goes s (dY a (a+n) (n-w.length) t x)=if t+1+q<=a then t+1+q else t+1+q-(n-w.length):=by
    rcases Cy a (a+n) (n-w.length) t s G F with h|⟨h,h'⟩
    .rw[h,<-H,dX]
     rcases I with v|v
     .rw[if_pos v,if_neg an]
     .rw[if_pos ⟨F,v⟩,if_neg an];omega
    .rw[h'];rw[<-H] at h;rw[h] at I |-;rw[if_pos an]
   rw[abe,abe,fM];refine⟨X.1,?_⟩
   rcases X.2 with h|h
   .left;simp only;omega
   .exact .inr h
def bQ(m:List Bool)(n:Nat):Nat:=(m.take n).countP id
def ma(m:List Bool)(x:af):af:=if x.op=5 then{ x with k:=bQ m x.k } else if aX x.op then{ x with jt:=(bQ m x.jt.toNat:Nat),jf:=(bQ m x.jf.toNat:Nat) } else x
def ej:List af->List Bool->List af
 | x::f,true::m=>ma m x::ej f m
 | _::f,false::m=>ej f m
 | _,_=>[]
def oI:List af->List Bool->Prop
 | x::f,b::m=>(b=true->∀o∈aW x,m[o]?=some true)/\oI f m
 | [],[]=>True
 | _,_=>False
def LV:∀{f:List af} {m:List Bool},oI f m->f.length=m.length
 | [],[],_=>rfl
 | [],_::_,h=>by cases h
 | _::_,[],h=>by cases h
 | x::f,b::m,h=>by simp[LV h.2]
def zuH:∀{f:List af} {m:List Bool} (o:Nat),oI f m->oI (f.drop o) (m.drop o)
 | _,_,0,h=>by simpa using h
 | [],[],o+1,h=>by simp[oI]
 | [],_::_,_+1,h=>by cases h
 | _::_,[],_+1,h=>by cases h
 | x::f,b::m,o+1,h=>by simpa using zuH o h.2
def zo4(b:Bool)(m:List Bool)(n:Nat):bQ (b::m) (n+1)=(if b then 1 else 0)+bQ m n:=by cases b<;>simp[bQ,abC]
def JN(m:List Bool):bQ m 0=0:=by simp[bQ]
def Uj:∀(f:List af) (m:List Bool) (o:Nat),f.length=m.length->(ej f m).drop (bQ m o)=ej (f.drop o) (m.drop o)
 | f,m,0,h=>by simp[JN]
 | [],m,o+1,h=>by
  have:m=[]:=List.eq_nil_of_length_eq_zero (by simpa using h.symm);subst this
  simp[ej]
 | x::f,[],o+1,h=>by simp at h
 | x::f,b::m,o+1,h=>by
  have a:=Uj f m o (by simpa using h);rw[zo4]
  cases b with
  | true =>
   rw[if_pos rfl,ej,abC,abJ,a];rfl
  | false =>
   simp only[aar,if_false,aa1,ej];rw[a];rfl
def JO(m:List Bool)(x:af):(ma m x).op=x.op:=by
 unfold ma;split
 .rfl
 .split<;>rfl
def zFa(m:List Bool)(s:St)(x:af)(d:Da):ef s (ma m x) d=ef s x d:=by
 by_cases a:x.op=5
 .have b:bg (5:Int)=(0,false,false):=by decide
  have c:(ma m x).op=5:=by rw[JO,a]
  have o:∀y:af,y.op=5->ef s y d=(s,true):=λy e=>by
   simp only[ef,e,b,aar,if_false,iE];simp
  rw[o _ c,o _ a]
 .unfold ma;rw[if_neg a]
  split<;>rfl
def zFb(m:List Bool)(s:St)(x:af):goes s (ma m x)=bQ m (goes s x):=by
 have b:=JO m x
 by_cases a:x.op=5
 .simp only[goes,b,a,if_true];simp[ma,a]
 by_cases c:aX x.op=true
 .have d:ma m x={ x with jt:=(bQ m x.jt.toNat:Nat),jf:=(bQ m x.jf.toNat:Nat) }:=by rw[ma,if_neg a,if_pos c]
  have e:dc s (ma m x)=dc s x:=by rw[d];rfl
  simp only[goes,b,if_neg a,c,if_true,e];rw[d]
  cases dc s x<;>simp
 .simp[goes,b,a,c,JN]
def zzl(d:Da):∀(n:Nat) (f:List af) (m:List Bool) (s:St),f.length<=n->oI f m->m[0]?=some true->run d (ej f m) s=run d f s
 | _,[],[],_,_,_,h=>by cases h
 | _,[],_::_,_,_,h,_=>by cases h
 | _,_::_,[],_,_,h,_=>by cases h
 | 0,_::_,_,_,h,_,_=>by simp at h
 | n+1,x::f,b::m,s,j,g,i=>by
  simp only[abn,ab5.injEq] at i;subst i;rw[ej,yU,yU,JO,zFa,zFb]
  by_cases a:x.op=6
  .have l:(ma m x).k=x.k:=by
    have:aX (6:Int)=false:=by decide
    simp[ma,a,this]
   rw[if_pos a,if_pos a,l]
  rw[if_neg a,if_neg a]
  by_cases c:x.op=22
  .rw[if_pos c,if_pos c]
  rw[if_neg c,if_neg c]
  by_cases e:(ef s x d).2=true
  case neg=>rw[if_neg e,if_neg e]
  rw[if_pos e,if_pos e]
  have o:gu x.op=false:=by simp[gu,a,c]
  have p:=g.1 rfl _ (SU o s);have q:=zzl d n (f.drop (goes s x)) (m.drop (goes s x)) (ef s x d).1 (by simp at j |-;omega) (zuH _ g.2) (by rw[acd,ace];exact p);rw[Uj f m _ (LV g.2),q]
def JP:∀(f:List af) (m:List Bool),f.length=m.length->(ej f m).length=m.countP id
 | [],[],_=>rfl
 | [],_::_,h=>by simp at h
 | _::_,[],h=>by simp at h
 | x::f,true::m,h=>by simp[ej,JP f m (by simpa using h)]
 | x::f,false::m,h=>by simp[ej,JP f m (by simpa using h)]
def ztj{m:List Bool}{o:Nat}(h:m[o]?=some true):bQ m o<m.countP id:=by
 have a:=(aab.1 h).1
 have e:m=m.take o++true::m.drop (o+1):=by have:=aaJ a;rw[(aab.1 h).2] at this;rw[<-this,ab6]
 rw[bQ]
 conv=>rhs;rw[e,List.countP_append,acj]
 simp
def L3(m:List Bool)(o:Nat):bQ m o<=o:=by have:=ab7 (p:=id) (l:=m.take o);rw[bQ];have a:=List.length_take_le o m;omega
def zCS{x:af}(m:List Bool)(h:jv x=true)(j:kI x=true):jv (ma m x)=true/\kI (ma m x)=true:=by
 have p:=BC h;have l:∀n,bQ m n<=n:=L3 m;obtain⟨a,d,f,k⟩:=x
 by_cases g:a=5
 .subst g
  have b:aX 5=false:=by decide
  simp only[ma,if_true];constructor
  .simp only[jv] at h |-
   have c:oJ 5=some (5,[106,97],true,false):=by decide
   simp only[c] at h |-;simpa using h
  .simp[kI]
 .cases b:aX a
  .simp[ma,g,b,h,j]
  .obtain⟨q,s,t,u⟩:=p b;simp only at q s t u
   have e:ma m ⟨a,d,f,k⟩=⟨a,(bQ m d.toNat:Nat),(bQ m f.toNat:Nat),k⟩:=by simp[ma,g,b]
   rw[e];constructor
   .simp only[jv] at h |-
    cases c:oJ a with
    | none=>rw[c] at h;cases h
    | some r =>
     rw[c] at h;simp only[aak] at h |-;refine⟨h.1,?_⟩;have o:=h.2;have v:=l d.toNat;have w:=l f.toNat;split at o
     .rename_i i;rw[if_pos i,decide_eq_true_eq];omega
     .rename_i i;rw[decide_eq_true_eq] at o;rw[if_neg i,decide_eq_true_eq];omega
   .simpa[kI] using j
def zo5:∀{f:List af} {m:List Bool},oI f m->j0 f=true->j0 (ej f m)=true
 | [],[],_,_=>rfl
 | [],_::_,h,_=>by cases h
 | _::_,[],h,_=>by cases h
 | x::f,false::m,h,c=>by
  rw[j0,aak] at c;rw[ej]
  exact zo5 h.2 c.2
 | x::f,true::m,h,c=>by
  rw[j0,aak] at c;rw[ej,j0,aak];refine⟨?_,zo5 h.2 c.2⟩;have g:=c.1;simp only[b_,aak] at g;obtain⟨⟨⟨j,l⟩,p⟩,q⟩:=g;obtain⟨p1,p2⟩:=zCS m j l;have d:=h.1 rfl;rw[b_,p1,p2,JP f m (LV h.2),JO];simp only[aaX,aak];constructor
  .by_cases a:x.op=5
   .have:=d x.k (by have:gu (5:Int)=false:=ag7;simp[aW,a,this]);rw[if_pos a,decide_eq_true_eq];simp only[ma,if_pos a];exact ztj this
   .rw[if_neg a]
  .by_cases b:aX x.op=true
   .have a:x.op≠5:=λe=>by rw[e] at b;revert b;decide
    have i:gu x.op=false:=by rcases BA b with e|e|e|e|e|e|e|e<;>rw[e]<;>decide
    have n:=d x.jt.toNat (by simp[aW,i,a,b]);have o:=d x.jf.toNat (by simp[aW,i,a,b]);have r:=ztj n;have s:=ztj o;rw[if_pos b,decide_eq_true_eq];simp only[ma,if_neg a,if_pos b];omega
   .rw[if_neg b]
def zxi:∀{f:List af} {m:List Bool},f.length=m.length->m.any id=false->ej f m=[]
 | [],[],_,_=>rfl
 | [],_::_,h,_=>by simp at h
 | _::_,[],h,_=>by simp at h
 | x::f,true::m,_,h=>by simp at h
 | x::f,false::m,h,a=>by
  rw[ej];exact zxi (by simpa using h) (by simpa using a)
def zxj:∀{f:List af} {m:List Bool},f.length=m.length->m.any id=true->ej f m≠[]
 | [],[],_,h=>by simp at h
 | [],_::_,h,_=>by simp at h
 | _::_,[],h,_=>by simp at h
 | x::f,true::m,_,_=>by simp[ej]
 | x::f,false::m,h,a=>by
  rw[ej];exact zxj (by simpa using h) (by simpa using a)
def zCT{x:af}{f:List af}(h:f≠[]):kJ (x::f)=kJ f:=by
 cases f with
 | nil=>exact absurd rfl h
 | cons y f=>simp[kJ,List.getLast?_cons_cons]
def zG9{x:af}(h:gu x.op=false):aW x≠[]:=by
 unfold aW;rw[h];simp only[aar,if_false];split
 .simp
 .split<;>simp
def zzm:∀{f:List af} {m:List Bool},oI f m->m.any id=true->kJ (ej f m)=true
 | [],[],_,h=>by simp at h
 | [],_::_,h,_=>by cases h
 | _::_,[],h,_=>by cases h
 | x::f,b::m,h,c=>by
  have d:=LV h.2
  cases a:m.any id with
  | true =>
   have e:=zzm h.2 a
   cases b with
   | true=>rw[ej,zCT (zxj d a),e]
   | false=>rw[ej,e]
  | false =>
   have i:b=true:=by rw[List.any_cons,a] at c;simpa using c
   subst i;rw[ej,zxi d a];simp only[kJ,List.getLast?_singleton,JO]
   cases j:gu x.op with
   | true=>rfl
   | false =>
    exfalso
    cases g:aW x with
    | nil=>exact zG9 j g
    | cons o l =>
     have:=h.1 rfl o (by rw[g];simp);have k:=aaA this;have:m.any id=true:=abA.2 ⟨true,k,rfl⟩;rw[a] at this;cases this
def zCU{f:List af}{m:List Bool}(b:dE f=true)(a:oI f m)(c:m[0]?=some true):dE (ej f m)=true:=by have d:=LV a;have g:=JP f m d;have h:=ab7 (p:=id) (l:=m);have e:m.any id=true:=abA.2 ⟨true,aaA c,rfl⟩;simp only[dE,aak,decide_eq_true_eq] at b |-;exact⟨⟨an,zo5 a b.1.2⟩,zzm a e⟩
def lf(x:af):Bool:=((bg x.op).2.2&&!(bg x.op).2.1)||decide (x.op=0)||decide (x.op=1)
def lg(w:List af):List Nat:=(w.filter lf).map af.k
def zCV(w:List af)(x:af):lg (w++[x])=if lf x then lg w++[x.k] else lg w:=by
 unfold lg;rw[List.filter_append,acn]
 by_cases h:lf x=true<;>simp[h]
def UU(w:List af):(lg w).length<=w.length:=by simp[lg,List.length_filter_le]
noncomputable def Ac(w:List af):List Nat :=
 (dx (aQ [] w).L ((aQ [] w).p.getD 0 0)).toList++((dw (aP 34) (aQ [] w).L ((aQ [] w).p.getD 0 0)).toList++(dw (4294967295::aP 33) (aQ [] w).L ((aQ [] w).p.getD 0 0)).toList)
def zHa[cw G](H:ae):bE G (.F 256 [] H (.ptr (H.length+1) 0) (H++[some (.map []),some (.cells [.vs [] .full,.mp H.length])])):=by refine fh cw.adC (aaj rfl) ?_;simp
def BH(a:Option ax)(L:List Nd):ae:=[a,some (.map (ents L)),some (zD L 3 1),some (.zone L.length)]
def zFD{a:Option ax}{L:List Nd}(b:∀n,a.map (ax.cl n)=a)(c:∀x∈L,x.ok)(d:L.length<=1000000):Bk (BH a L) 2 3 1 L:=by refine⟨rfl,rfl,rfl,λn e=>?_,c,d⟩;simp only[BH,aan,abG] at e;simp[BH,zD,ax.cl,b,ba,V.cl,Tk.cl,ents,Xg,show 3<n by omega,show 1<n by omega]
def zAs[eo G][dK G][aA G][aB G][aO G][ar G][hB:jb G][cw G][aL G][c_ G][cf G][f_ G](w:List af)(hf:w.length<=maxLen)(hk:∀x∈w,x.k<4294967296)(I:aY w=true) :
  FP G 326 [FL w] (.vs (aj .u32 (lg w++Ac w)) .no):=by
 haveI:bG G:=hB.tobG
 refine bt f_.afe (aaj rfl) ?_;obtain⟨L,U⟩:=bb ((aQ [] w).L);have W:=Cp Inv.nil w hk
 have hi:Inv L:=by rw[U];exact W.ext.inv
 have qB:w.length<=32:=by simp only[aY,aak,decide_eq_true_eq] at I;exact I.1
 have ho:L.length<=114:=by rw[U];have:=W.ext.len;simp at this;omega
 obtain⟨X,J⟩:=bb (yc [] w)
 have K:X.length=19:=by rw[J];exact ztg Inv.nil hk
 have l:∀n,ba n X=X:=λn=>by rw[J];exact zxe w n
 have nX:X.map V.jA=X:=by rw[J,yc,if_pos I,vcs];simp[ny,aal,V.jA]
 obtain⟨p0,Nr⟩:=bb ((aQ [] w).p.getD 0 0)
 have M:X.take 1=[.int .i64 p0]:=by rw[J,yc,if_pos I,zw3 W.len,Nr,aaT,aah (show 0<(aQ [] w).p.length by rw[W.len];decide)];rfl
 have CR:∀k,Bk (BH (some (.zone k)) []) 2 3 1 []:=λk=>zFD (λn=>rfl) ir ir;have o:∀k,Bk (BH (some (.zone k)) L) 2 3 1 L:=λk=>zFD (λn=>rfl) hi.ok an
 have he:∀k,Bk (BH (some (.zone k)) L++[some (.cells X)]) 2 3 1 L:=λk=>(o k).app λn=>by simp[ax.cl,l]
 have mK:=λk=>zxd (G:=G) w ((CR k).app (r:=[none]) λn=>by simp) Inv.nil ag7 hf hk
 have e1:∀k,dD (BH (some (.zone k)) []) 2 3 1 (Ab [] w)=BH (some (.zone k)) L:=λk=>by rw[U,Ab,if_pos I];rfl
 have mK:∀k,SF G 296 [.ptr 2 0,.vs (IL w) .no] (BH (some (.zone k)) []++[none]) (.a_ [.agg X,.bool true]) (BH (some (.zone k)) L++[none]):=λk=>by
  have:=mK k;rw[(CR k).cu,<-J,e1,I] at this;exact this
 have Y:=λk=>zof (G:=G) p0 (he k);have ym:=fun(k:Nat) (r:ae) (hr:∀n,r.map (aau (ax.cl n))=r)=>zA1 (G:=G) p0 (aP 34) ((o k).app hr) hi ir (xD 34);have uW:=fun(k:Nat) (r:ae) (hr:∀n,r.map (aau (ax.cl n))=r)=>zA1 (G:=G) p0 (4294967295::aP 33) ((o k).app hr) hi ir (λc Y=>by rcases aaG.1 Y with rfl|h;decide;exact xD 33 c h)
 have D:Ac w=(dx L p0).toList++((dw (aP 34) L p0).toList++(dw (4294967295::aP 33) L p0).toList):=by rw[U,Nr];rfl
 rw[D];generalize dx L p0=m at Y |-;generalize dw (aP 34) L p0=o2 at ym |-;generalize dw (4294967295::aP 33) L p0=o3 at uW |-;obtain⟨T,D⟩:∃T:Nat->List Nat,∀j,T j=lg (w.take j):=⟨_,λ_=>rfl⟩
 have T0:T 0=[]:=by rw[D];rfl
 have TN:T w.length=lg w:=by rw[D,aaO]
 have Tl:∀i,(T i).length<=i:=λi=>by rw[D];exact aca (UU _) (by rw[aaB];omega)
 simp[FL];refine aM w.length (λi=>[(0,FL w),(3,.vs (aj .u32 (T i)) (.own 0)),(18,FL w),(19,.int .i64 w.length),(20,.int .i64 i)]) (λi=>[some (.zone (T i).length)]) (λ_=>True) ?_ ?_
 .simp[aw,ak,FL,T0]
 intro i qL _
 by_cases q:i<w.length
 .obtain⟨x,hx⟩:=bb (w[i])
  have hg:w[i]?=some x:=by rw[aah q,hx]
  have eR:=rG q;rw[<-hx] at eR;have eg:=K6 (G:=G) x;have dU:x.cs=[.int .i64 x.op,.int .i64 x.jt,.int .i64 x.jf,.int .u32 (x.k:Int)]:=rfl;have hl:=Tl i
  have d:T (i+1)=if lf x then T i++[x.k] else T i:=by rw[D,D,aaL,hg];exact zCV _ _
  simp only[IV,dU] at eg;have e:aj .u32 (T i)++[[V.int .u32 (x.k:Int)]]=aj .u32 (T i++[x.k]):=K2 .u32 (T i) x.k;simp(disch:=omega)[bC,FL,eR,dU];refine au eg ?_
  cases ha:(bg x.op).2.2 with
  | true =>
   cases C:(bg x.op).2.1 with
   | false =>
    have g:lf x=true:=by simp[lf,ha,C]
    rw[if_pos g] at d
    have s:(T (i+1)).length=(T i).length+1:=by rw[d];simp
    rw[<-d] at e
    simp(disch:=omega)[az,q,e,s,bD,aw,ak,-aad]
   | true =>
    by_cases t:x.op=0
    .have g:lf x=true:=by simp[lf,t]
     rw[if_pos g] at d
     have s:(T (i+1)).length=(T i).length+1:=by rw[d];simp
     rw[<-d] at e;simp(disch:=omega)[az,q,t,e,s,bD,aw,ak,-aad]
    by_cases m:x.op=1
    .have g:lf x=true:=by simp[lf,m]
     rw[if_pos g] at d
     have s:(T (i+1)).length=(T i).length+1:=by rw[d];simp
     rw[<-d] at e;simp(disch:=omega)[az,q,m,e,s,bD,aw,ak,-aad]
    have g:lf x=false:=by simp[lf,C,t,m]
    rw[g] at d;simp only[aar,if_false] at d
    simp(disch:=omega)[az,q,aF t,aF m,d,bD,aw,ak,-aad]
  | false =>
    by_cases t:x.op=0
    .have g:lf x=true:=by simp[lf,t]
     rw[if_pos g] at d
     have s:(T (i+1)).length=(T i).length+1:=by rw[d];simp
     rw[<-d] at e;simp(disch:=omega)[az,q,t,e,s,bD,aw,ak,-aad]
    by_cases m:x.op=1
    .have g:lf x=true:=by simp[lf,m]
     rw[if_pos g] at d
     have s:(T (i+1)).length=(T i).length+1:=by rw[d];simp
     rw[<-d] at e;simp(disch:=omega)[az,q,m,e,s,bD,aw,ak,-aad]
    have g:lf x=false:=by simp[lf,ha,t,m]
    rw[g] at d;simp only[aar,if_false] at d;simp(disch:=omega)[az,q,aF t,aF m,d,bD,aw,ak,-aad]
 .have ay:i=w.length:=an
  subst ay;have FO:=UU w;obtain⟨O,hO⟩:=bb (lg w);simp only[TN,<-hO];rw[<-hO] at FO;simp[FL];refine u5 (zHa _) ir ?_;simp;rw[show([some (.zone O.length),some (.map []),some (.cells [.vs [] (.own 3),.mp 1]),some (.zone 0),none]:ae)=BH (some (.zone O.length)) []++[none] from rfl];refine cN (mK _) ?_;have b:∀k,(BH (some (.zone k)) L).length=4:=λk=>rfl;have kk:∀(k:Nat) (r:ae),(BH (some (.zone k)) L++r)[4]?=r[0]?:=λk r=>oT (b k)
  have k0:∀(k:Nat) (r:ae) x,(BH (some (.zone k)) L++r).set 4 x=BH (some (.zone k)) L++r.set 0 x:=λk r x=>tN (b k) x;have N:∀(k:Nat) (r:ae),(BH (some (.zone k)) L++r)[0]?=some (some (.zone k)):=λk r=>rfl;have P:∀(k n:Nat) (r:ae),(BH (some (.zone k)) L++r).set 0 (some (.zone n))=BH (some (.zone n)) L++r:=λk n r=>rfl;obtain⟨Z,hZ⟩:∃Z:List V,Z=vcs (aaP 18 0) [] .full:=⟨_,rfl⟩
  have lZ:Z.length=19:=by rw[hZ];rfl
  have JV:[V.int .i64 0,.int .i64 0,.int .i64 0,.int .i64 0,.int .i64 0,.int .i64 0,.int .i64 0,.int .i64 0,.int .i64 0,.int .i64 0,.int .i64 0,.int .i64 0,.int .i64 0,.int .i64 0,.int .i64 0,.int .i64 0,.int .i64 0,.int .i64 0,.vs [] .full]=Z:=by rw[hZ];rfl
  have tX:X.take 19=X:=aae an;have dZ:Z.drop 19=[]:=aai an;simp[JV,lZ,kk,k0,K,dZ];simp[M];refine cN (Y _) ?_
  rcases m with _|a
  .obtain⟨f,u⟩:=bb (O++[])
   have hh:f.length<=40:=by rw[u];simp;omega
   obtain⟨F,v⟩:∃F:Nat->List Nat,∀i,F i=f++(if i=0 then [] else if i=1 then o2.toList else o2.toList++o3.toList):=⟨_,λ_=>rfl⟩
   have E:F 0=f:=by rw[v];simp
   have z:F 1=f++o2.toList:=by rw[v];simp
   have H:F 2=F 1++o3.toList:=by rw[v,z];simp
   have lF:∀i,(F i).length<=42:=λi=>by
    rw[v];split
    .simp;omega
    .split
     .cases o2<;>simp<;>omega
     .cases o2<;>cases o3<;>simp<;>omega
   simp(disch:=omega)[b,az]
   have hj:O=f:=by rw[u];simp
   refine aM 2 (λi=>[(3,.vs (aj .u32 (F i)) (.own 0)),(9,.ptr 2 0),(10,.ptr 4 0),(71,.agg [.int .u32 0,.int .u32 4294967295]),(72,.int .i64 i)]) (λi=>BH (some (.zone (F i).length)) L++[some (.cells X)]) (λ_=>True) ?_ ?_
   .have:=((o f.length).app (r:=[some (.cells X)]) λn=>by simp[ax.cl,l]).shut.self;simp[b] at this;simp[aw,b,E,this,hj]
   intro i XH _;have hm:=lF i
   have Q:aD .i64 0 1=1:=by decide
   have R:aD .i64 1 1=2:=by decide
   have S:∀k:Nat,ak 5 (BH (some (.zone k)) L++[some (.cells X)])=BH (some (.zone k)) L++[some (.cells X)]:=λk=>by
    have:=((o k).app (r:=[some (.cells X)]) λn=>by simp[ax.cl,l]).shut.self;simpa[b] using this
   have C:∀(k:Nat),ak 5 (BH (some (.zone k)) L++[some (.cells X),none])=BH (some (.zone k)) L++[some (.cells X)]:=λk=>by
    have:=((o k).app (r:=[some (.cells X)]) λn=>by simp[ax.cl,l]).shut.back [none];simpa[b] using this
   by_cases h0:i=0
   .subst h0;simp[b,K,M];refine cN (ym _ _ λn=>by simp[ax.cl,l]) ?_
    cases o2 with
    | none =>
     have A:F 1=F 0:=by rw[z,E];simp
     simp[b,aw,S,Q,A]
    | some y =>
     have A:F 1=F 0++[y]:=by rw[z,E];simp
     have l1:(F 1).length=(F 0).length+1:=by rw[A];simp
     have e:aj .u32 (F 0)++[[V.int .u32 (y:Int)]]=aj .u32 (F 1):=by rw[A];exact K2 .u32 (F 0) y
     simp(disch:=omega)[b,N,P,az,aw,C,Q,e,l1]
   by_cases h1:i=1
   .subst h1;simp[b,K,M];refine cN (uW _ _ λn=>by simp[ax.cl,l]) ?_
    cases o3 with
    | none =>
     have B:F 2=F 1:=by rw[H];simp
     simp[b,aw,S,R,B]
    | some y =>
     have B:F 2=F 1++[y]:=by rw[H];simp
     have l2:(F 2).length=(F 1).length+1:=by rw[B];simp
     have e:aj .u32 (F 1)++[[V.int .u32 (y:Int)]]=aj .u32 (F 2):=by rw[B];exact K2 .u32 (F 1) y
     simp(disch:=omega)[b,N,P,az,aw,C,R,e,l2]
   obtain rfl:i=2:=by omega
   have cL:F 2=O++((none:Option Nat).toList++(o2.toList++o3.toList)):=by rw[H,z,u];simp
   simp[cL]
  .obtain⟨f,u⟩:=bb (O++[a])
   have hh:f.length<=40:=by rw[u];simp;omega
   obtain⟨F,v⟩:∃F:Nat->List Nat,∀i,F i=f++(if i=0 then [] else if i=1 then o2.toList else o2.toList++o3.toList):=⟨_,λ_=>rfl⟩
   have E:F 0=f:=by rw[v];simp
   have z:F 1=f++o2.toList:=by rw[v];simp
   have H:F 2=F 1++o3.toList:=by rw[v,z];simp
   have lF:∀i,(F i).length<=42:=λi=>by
    rw[v];split
    .simp;omega
    .split
     .cases o2<;>simp<;>omega
     .cases o2<;>cases o3<;>simp<;>omega
   simp(disch:=omega)[b,N,P,az]
   have hp:aj .u32 O++[[V.int .u32 (a:Int)]]=aj .u32 f:=by rw[u];exact K2 .u32 O a
   have hn:O.length+1=f.length:=by rw[u];simp
   refine aM 2 (λi=>[(3,.vs (aj .u32 (F i)) (.own 0)),(9,.ptr 2 0),(10,.ptr 4 0),(71,.agg [.int .u32 0,.int .u32 4294967295]),(72,.int .i64 i)]) (λi=>BH (some (.zone (F i).length)) L++[some (.cells X),none]) (λ_=>True) ?_ ?_
   .have:=((o f.length).app (r:=[some (.cells X),none]) λn=>by simp[ax.cl,l]).shut.self;simp[b] at this;simp[aw,b,E,this,u.symm,hn]
   intro i XH _;have hm:=lF i
   have Q:aD .i64 0 1=1:=by decide
   have R:aD .i64 1 1=2:=by decide
   have S:∀k:Nat,ak 6 (BH (some (.zone k)) L++[some (.cells X),none])=BH (some (.zone k)) L++[some (.cells X),none]:=λk=>by
    have:=((o k).app (r:=[some (.cells X),none]) λn=>by simp[ax.cl,l]).shut.self;simpa[b] using this
   have C:∀(k:Nat),ak 6 (BH (some (.zone k)) L++[some (.cells X),none,none])=BH (some (.zone k)) L++[some (.cells X),none]:=λk=>by
    have:=((o k).app (r:=[some (.cells X),none]) λn=>by simp[ax.cl,l]).shut.back [none];simpa[b] using this
   by_cases h0:i=0
   .subst h0;simp[b,K,M];refine cN (ym _ _ λn=>by simp[ax.cl,l]) ?_
    cases o2 with
    | none =>
     have A:F 1=F 0:=by rw[z,E];simp
     simp[b,aw,S,Q,A]
    | some y =>
     have A:F 1=F 0++[y]:=by rw[z,E];simp
     have l1:(F 1).length=(F 0).length+1:=by rw[A];simp
     have e:aj .u32 (F 0)++[[V.int .u32 (y:Int)]]=aj .u32 (F 1):=by rw[A];exact K2 .u32 (F 0) y
     simp(disch:=omega)[b,N,P,az,aw,C,Q,e,l1]
   by_cases h1:i=1
   .subst h1;simp[b,K,M];refine cN (uW _ _ λn=>by simp[ax.cl,l]) ?_
    cases o3 with
    | none =>
     have B:F 2=F 1:=by rw[H];simp
     simp[b,aw,S,R,B]
    | some y =>
     have B:F 2=F 1++[y]:=by rw[H];simp
     have l2:(F 2).length=(F 1).length+1:=by rw[B];simp
     have e:aj .u32 (F 1)++[[V.int .u32 (y:Int)]]=aj .u32 (F 2):=by rw[B];exact K2 .u32 (F 1) y
     simp(disch:=omega)[b,N,P,az,aw,C,R,e,l2]
   obtain rfl:i=2:=by omega
   have cL:F 2=O++((some a).toList++(o2.toList++o3.toList)):=by rw[H,z,u];simp
   simp[cL]
def qR(l:List af)(x:af):List af:=if x∈l then l else if aY [x]=true then l++[x] else l
def UW(l:List af)(x:af):(qR l x).length<=l.length+1:=by unfold qR;split;omega;split<;>simp
def wX(l:List af):List (V×V):=l.map λx=>(IV x,.bool true)
def zCW{x:af}:∀{l:List af} (i:Nat),x∈l->j_ (.row [.int,.int,.int,.int]) (.agg x.cs) (wX l) i=some (some (i+l.idxOf x,.bool true))
 | [],i,h=>by cases h
 | y::l,i,h=>by
  simp only[wX,aa2,j_,j9,IV,BG]
  by_cases e:x=y
  .subst e;simp
  .have b:x∈l:=by simpa[e] using h
   have a:=zCW (i+1) b
   have c:(y::l).idxOf x=l.idxOf x+1:=by rw[List.idxOf_cons,beq_false_of_ne (Ne.symm e)];rfl
   simp only[wX,IV] at a;simp only[e,decide_false,a,c,show i+1+l.idxOf x=i+(l.idxOf x+1) from an]
def ztk{x:af}:∀{l:List af} (i:Nat),x∉l->j_ (.row [.int,.int,.int,.int]) (.agg x.cs) (wX l) i=some none
 | [],i,_=>rfl
 | y::l,i,h=>by
  simp only[aaG,not_or] at h;have a:=ztk (i+1) h.2;simp only[wX,IV] at a;simp only[wX,aa2,j_,j9,IV,BG,h.1,decide_false,a]
def qi(a b:List af)(n:Nat):ae:=[some (.cells [.vs (IL a) (.own 3)]),some (.map (wX b)),some (.cells [.mp 1]),some (.zone n)]
def BL(l:List af):ae:=qi l l l.length
def ztl(a b:List af)(n:Nat):im (qi a b n):=by
 intro m c;simp only[qi,aan,abG] at c
 have d:(wX b).map (λp=>(p.1.cl m,p.2.cl m))=wX b:=by simp[wX,IV,af.cs,V.cl,ba,aal]
 simp[qi,ax.cl,ba,V.cl,Tk.cl,show 3<m by omega,show 1<m by omega,d]
def UX[aA G][aB G][aO G][fH G](l:List af)(x:af)(r:ae)(D:∀n,r.map (aau (ax.cl n))=r)(O:l.length<=1000000)(E:x.k<4294967296) :
  SF G 327 [IV x,.ptr 2 0,.ptr 0 0] (BL l++r) (.a_ []) (BL (qR l x)++r):=by
 refine km fH.aff (aaj rfl) ?_;have h:∀a b n,(qi a b n).length=4:=λa b n=>rfl;have m:x.cs.length=4:=rfl;have o:x.cs.take 4=x.cs:=rfl
 have P:∀n,ba n x.cs=x.cs:=λn=>by simp[af.cs,ba,V.cl]
 have nx:x.cs.map V.jA=x.cs:=rfl;have F:∀a b n (s:ae),(qi a b n++s)[0]?=some (some (.cells [.vs (IL a) (.own 3)])):=λa b n s=>rfl;have v:∀a b n (s:ae),(qi a b n++s)[1]?=some (some (.map (wX b))):=λa b n s=>rfl;have w:∀a b n (s:ae),(qi a b n++s)[2]?=some (some (.cells [.mp 1])):=λa b n s=>rfl;have H:∀a b n (s:ae),(qi a b n++s)[3]?=some (some (.zone n)):=λa b n s=>rfl;have Q:∀a c b n (s:ae),(qi a b n++s).set 0 (some (.cells [.vs (IL c) (.own 3)]))=qi c b n++s:=λa c b n s=>rfl
 have I:∀a b d n (s:ae),(qi a b n++s).set 1 (some (.map (wX d)))=qi a d n++s:=λa b d n s=>rfl;have R:∀a b n e (s:ae),(qi a b n++s).set 3 (some (.zone e))=qi a b e++s:=λa b n e s=>rfl
 have kk:∀a b n (s:ae),(qi a b n++(r++s))[4+r.length]?=s[0]?:=λa b n s=>by
  rw[<-aap];exact oT (by simp[h])
 have J:∀a b n (s:ae) y,(qi a b n++(r++s)).set (4+r.length) y=qi a b n++(r++s.set 0 y):=λa b n s y=>by
  rw[<-aap,tN (by simp[h]),aap]
 have z:(∀y∈x.cs,y.pure=true)=True:=eq_true (λy i=>by simp only[af.cs,aaG,aaH,or_false] at i;rcases i with rfl|rfl|rfl|rfl<;>rfl);have p:=BG x x;simp only[decide_true] at p;have A:=BE (G:=G) [x] (by simp[maxLen]) (λy i=>by simp at i;rw[i];exact E);simp only[FL,IL,aa2,ab0] at A
 have q:∀a b n (s:ae),ak (4+r.length) (qi a b n++(r++s))=qi a b n++r:=λa b n s=>by
  have:=((ztl a b n).app D).back s;rw[aap,aao,h] at this;exact this
 simp[BL,h,IV,m,o,v,w,J,j9,p]
 by_cases g:x∈l
 .have j:qR l x=l:=if_pos g;simp[zCW 0 g,j,q]
 .simp[ztk 0 g,m,o,kk,z];refine au A ?_
  cases B:aY [x] with
  | false =>
   have j:qR l x=l:=by rw[qR,if_neg g,B];rfl
   simp[j,q]
  | true =>
   have j:qR l x=l++[x]:=by rw[qR,if_neg g,B];rfl
   have K:wX l++[(V.agg x.cs,V.bool true)]=wX (l++[x]):=by simp[wX,IV]
   have S:IL l++[x.cs]=IL (l++[x]):=by simp[IL]
   have T:x.cs.all V.pure=true:=rfl
   have L:∀f∈IL l,f.length=4:=λf C=>by simp only[IL,abE] at C;obtain⟨y,_,rfl⟩:=C;rfl
   have M:(l.length+1)*32<=140737488355328:=an
   have t:∀a c b n,(qi a b n).set 0 (some (.cells [.vs (IL c) (.own 3)]))=qi c b n:=λa c b n=>rfl;have N:∀a b d n,(qi a b n).set 1 (some (.map (wX d)))=qi a d n:=λa b d n=>rfl;have u:∀a b n e,(qi a b n).set 3 (some (.zone e))=qi a b e:=λa b n e=>rfl;simp[ztk 0 g,j9,p,m,o,F,v,w,H,h,K,I,z,t,u,M,j,q]
def L4{f:Nat}{cap args:List V}{r:V}{H H':ae}{base:Nat}{d:Option Nat}{os:List aE}{K:List Kt}{e:Env}{Q:Ex->Env->ae->Prop}(h:SF G f (args++cap) H r H')
  (a:WO G base os K (e.put d r) H' Q):KI G false (.fn f cap) args base d os K e H Q:=by
 obtain⟨i,H1,b,c,g⟩:=h;refine kY b (λh=>by cases h) ?_;rw[c,g];exact a
def fX(l xs:List af):List af:=xs.foldl qR l
def DE:∀(xs l:List af),(fX l xs).length<=l.length+xs.length
 | [],l=>aav _
 | x::xs,l=>by
  have a:=DE xs (qR l x);have b:=UW l x;show(fX (qR l x) xs).length<=_;rw[aan];omega
def zuI(l xs:List af)(x:af):fX l (xs++[x])=qR (fX l xs) x:=by simp[fX]
def zxX(l xs ys:List af):fX l (xs++ys)=fX (fX l xs) ys:=by simp[fX]
def Cz:List Nat:=[0,1,4,84,68,164]
def nH(n:Nat):List af:=Cz.map fun(o:Nat)=>(⟨o,0,0,n⟩:af)
def Hd(w:List af)(a:List Nat):List af:=fX (fX (fX [] w) [⟨7,0,0,0⟩,⟨135,0,0,0⟩]) (a.flatMap nH)
def zAt[eo G][dK G][aA G][aB G][aO G][ar G][A:jb G][cw G][aL G][c_ G][cf G][f_ G][fH G](w:List af)(P:w.length<=maxLen)(E:∀x∈w,x.k<4294967296)(C:aY w=true)
  (Q:∀n∈lg w++Ac w,n<4294967296):FP G 330 [FL w] (.a_ [FL (Hd w (lg w++Ac w)),.int .i64 0]):=by
 refine bt fH.afg (aaj rfl) ?_;have F:=BE (G:=G) w P E;have e:=zAs (G:=G) w P E C
 have qB:w.length<=32:=by simp only[aY,aak,decide_eq_true_eq] at C;exact C.1
 have Z:(lg w++Ac w).length<=35:=by
  have:=UU w;rw[aao,Ac];simp only[aao]
  have b:∀o:Option Nat,o.toList.length<=1:=λo=>by cases o<;>simp
  have a1:=b (dx (aQ [] w).L ((aQ [] w).p.getD 0 0));have a2:=b (dw (aP 34) (aQ [] w).L ((aQ [] w).p.getD 0 0));have a3:=b (dw (4294967295::aP 33) (aQ [] w).L ((aQ [] w).p.getD 0 0));omega
 generalize lg w++Ac w=fF at e Z Q |-;rw[C] at F;simp only[FL] at F e;simp[FL];refine au F ?_;obtain⟨T,h⟩:∃T:Nat->List af,∀j,T j=fX [] (w.take j):=⟨_,λ_=>rfl⟩
 have T0:T 0=[]:=by rw[h];rfl
 have TN:T w.length=fX [] w:=by rw[h,aaO]
 have Tl:∀i,i<=w.length->(T i).length<=i:=λi hi=>by rw[h];have:=DE (w.take i) [];rw[aaB] at this;simp at this;omega
 have c:∀l,(BL l).length=4:=λl=>rfl;have kk:∀l (r:ae),(BL l++r)[4]?=r[0]?:=λl r=>oT (c l);have k0:∀l (r:ae) x,(BL l++r).set 4 x=BL l++r.set 0 x:=λl r x=>tN (c l) x;have bk:∀l (r:ae),ak 4 (BL l++r)=BL l:=λl r=>(ztl l l l.length).back r;have q:∀l,ak 4 (BL l)=BL l:=λl=>(ztl l l l.length).self;have H:∀l,(BL l)[0]?=some (some (.cells [.vs (IL l) (.own 3)])):=λl=>rfl;have hE:([some (.cells [.vs [] (.own 3)]),some (.map []),some (.cells [.mp 1]),some (.zone 0)]:ae)=BL []:=rfl
 simp[hE];refine aM w.length (λi=>[(0,FL w),(4,.ptr 0 0),(6,.fn 327 [.ptr 2 0,.ptr 0 0]),(18,FL w),(19,.int .i64 w.length),(20,.int .i64 i)]) (λi=>BL (T i)) (λ_=>True) ?_ ?_
 .simp[aw,FL,T0,c,q]
 intro i hi _
 by_cases d:i<w.length
 .obtain⟨x,I⟩:=bb (w[i])
  have hg:w[i]?=some x:=by rw[aah d,I]
  have R:=rG d;rw[<-I] at R;have fC:x.cs.length=4:=rfl;have lO:x.cs.take 4=x.cs:=rfl;have ha:([V.int .i64 0,.int .i64 0,.int .i64 0,.int .u32 0]:List V).drop 4=[]:=rfl;have v9:=E x (I▸aa0 d);have nx:x.cs.map V.jA=x.cs:=rfl
  have J:T (i+1)=qR (T i) x:=by rw[h,h,aaL,hg];exact zuI _ _ _
  have s:=UX (G:=G) (T i) x [some (.cells x.cs)] (λn=>by simp[ax.cl,af.cs,ba,V.cl]) (by have:=Tl i hi;omega) v9;simp only[IV] at s;simp(disch:=omega)[bC,FL,R,fC,lO,c,kk,k0];refine L4 s ?_;simp(disch:=omega)[d,J,bD,aw,c,bk,-aad]
 .have K:i=w.length:=an
  subst K;have t:=UX (G:=G) (fX [] w) ⟨7,0,0,0⟩ [] (λn=>rfl) (by have:=DE w [];simp at this;omega) ag7;have f:=UX (G:=G) (qR (fX [] w) ⟨7,0,0,0⟩) ⟨135,0,0,0⟩ [] (λn=>rfl) (by have:=DE w [];have:=UW (fX [] w) ⟨7,0,0,0⟩;simp at *;omega) ag7;obtain⟨B,A⟩:=bb (qR (qR (fX [] w) ⟨7,0,0,0⟩) ⟨135,0,0,0⟩);rw[<-A] at f
  have EJ:B.length<=34:=by rw[A];have b:=DE w [];have M:=UW (fX [] w) ⟨7,0,0,0⟩;have S:=UW (qR (fX [] w) ⟨7,0,0,0⟩) ⟨135,0,0,0⟩;simp at b;omega
  have Bw:Hd w fF=fX B (fF.flatMap nH):=by rw[A];rfl
  simp only[IV,af.cs,aaW] at t f;simp[FL,TN];refine L4 t ?_;simp;refine L4 f ?_;simp;refine au e ?_;obtain⟨U,u⟩:∃U:Nat->List af,∀j,U j=fX B ((fF.take j).flatMap nH):=⟨_,λ_=>rfl⟩
  have U0:U 0=B:=by rw[u];rfl
  have UN:U fF.length=Hd w fF:=by rw[u,aaO,Bw]
  have Ul:∀i,(U i).length<=34+6*35:=λi=>by
   rw[u];have b:=DE ((fF.take i).flatMap nH) B
   have M:((fF.take i).flatMap nH).length=6*(fF.take i).length:=by
    generalize fF.take i=l
    induction l with
    | nil=>rfl
    | cons a l ih=>rw[abu,aao,ih,aan];simp[nH,Cz];omega
   rw[M,aaB] at b;omega
  simp[H];refine aM fF.length (λi=>[(4,.ptr 0 0),(6,.fn 327 [.ptr 2 0,.ptr 0 0]),(35,.vs (aj .u32 fF) .no),(36,.int .i64 fF.length),(37,.int .i64 i)]) (λi=>BL (U i)) (λ_=>True) ?_ ?_
  .simp[aw,U0,c,q]
  intro i XH _
  by_cases d:i<fF.length
  .obtain⟨n,N⟩:=bb (fF[i])
   have zY:fF[i]?=some n:=by rw[aah d,N]
   have Ua:=Q n (N▸aa0 d);obtain⟨Y,v⟩:∃Y:Nat->List af,∀j,Y j=fX (U i) ((nH n).take j):=⟨_,λ_=>rfl⟩
   have Y0:Y 0=U i:=by rw[v];rfl
   have Y6:Y 6=U (i+1):=by rw[v,u,u,aae (show(nH n).length<=6 from aav _),aaL,zY];simp[zxX]
   have Yl:∀j,(Y j).length<=34+6*35+6:=λj=>by
    rw[v];have b:=DE ((nH n).take j) (U i);have M:=Ul i;have S:(nH n).length=6:=rfl;rw[aaB,S] at b;omega
   obtain⟨g,D⟩:∃g:List V,g=[.int .i64 0,.int .i64 1,.int .i64 4,.int .i64 84,.int .i64 68,.int .i64 164]:=⟨_,rfl⟩
   have l6:g.length=6:=by rw[D];rfl
   have W:∀m,ba m g=g:=λm=>by rw[D];simp[ba,V.cl]
   have O:∀j,j<6->(g.drop j).take 1=[.int .i64 (Cz.getD j 0:Nat)]:=λj hj=>by
    rw[D]
    rcases(by omega:j=0\/j=1\/j=2\/j=3\/j=4\/j=5) with rfl|rfl|rfl|rfl|rfl|rfl<;>rfl
   simp(disch:=omega)[bC,N.symm,<-D,H];refine aM 6 (λj=>[(4,.ptr 0 0),(6,.fn 327 [.ptr 2 0,.ptr 0 0]),(10,.int .u32 n),(35,.vs (aj .u32 fF) .no),(36,.int .i64 fF.length),(37,.int .i64 i),(41,.agg g),(42,.int .i64 j)]) (λj=>BL (Y j)) (λ_=>True) ?_ ?_
   .simp[aw,Y0,c,q,W]
   intro j hj _
   by_cases y:j<6
   .obtain⟨o,X⟩:=bb (Cz.getD j 0)
    have J:Y (j+1)=qR (Y j) ⟨o,0,0,n⟩:=by
     rw[v,v,aaL,<-zuI]
     congr 2
     have:(nH n)[j]?=some ⟨o,0,0,n⟩:=by
      rw[X]
      rcases(by omega:j=0\/j=1\/j=2\/j=3\/j=4\/j=5) with rfl|rfl|rfl|rfl|rfl|rfl<;>rfl
     rw[this];rfl
    have z:=O j y;rw[<-X] at z;have s:=UX (G:=G) (Y j) ⟨o,0,0,n⟩ [] (λn=>rfl) (by have:=Yl j;omega) Ua;simp only[IV,af.cs,aaW] at s;simp(disch:=omega)[bC,l6,z,az];refine L4 s ?_;simp(disch:=omega)[y,J,bD,aw,c,q,W,-aad]
   .obtain rfl:j=6:=by omega
    simp(disch:=omega)[d,bD,aw,c,q,Y6,-aad]
  .have K:i=fF.length:=an
   subst K;simp[H,UN]
def UZ(L:List af):List (List af):=L.flatMap λx=>L.map λy=>[x,y]
def su(w L:List af):List (List af) :=
 if w.length=0 then [] else []::(if w.length=1 then [] else L.map (λx=>[x])++(if w.length=2 then [] else UZ L))
def zuJ{L:List af}{i j:Nat}{x y:af}:∀{K:List af},K[i]?=some x->L[j]?=some y->(K.flatMap λx=>L.map λy=>[x,y])[i*L.length+j]?=some [x,y]
 | [],h,_=>by simp at h
 | z::K,h,a=>by
  have b:=(aab.1 a).1;rw[abu]
  cases i with
  | zero =>
   simp only[abn,ab5.injEq] at h;subst h
   rw[Nat.zero_mul,aa1,aaf (by simpa using b),abt,a];rfl
  | succ i =>
   rw[aaN] at h;rw[abj (by rw[abm,ab2];omega),abm,show(i+1)*L.length+j-L.length=i*L.length+j by rw[ab2];omega];exact zuJ h a
def zuK(L:List af):∀K:List af,(K.flatMap λx=>L.map λy=>[x,y]).length=K.length*L.length
 | []=>by simp
 | z::K=>by rw[abu,aao,zuK L K,abm,aan,ab2];omega
section
variable {w L:List af} {i j:Nat} {x y:af}
def zNc(a:w.length≠0):(su w L)[0]?=some []:=by simp[su,a]
def zNd(a:2<=w.length)(h:L[i]?=some x):(su w L)[i+1]?=some [x]:=by have hi:=(aab.1 h).1;rw[su,if_neg an,aaN,if_neg an,aaf (by simpa using hi),abt,h];rfl
def zNe(b:3<=w.length)(h:L[i]?=some x)(a:L[j]?=some y):(su w L)[L.length+1+(i*L.length+j)]?=some [x,y]:=by rw[su,if_neg an,show L.length+1+(i*L.length+j)=(L.length+(i*L.length+j))+1 by omega,aaN,if_neg an,abj ir,abm,if_neg an,Nat.add_sub_cancel_left];exact zuJ h a
def zFc:(su w L).length=if w.length=0 then 0 else if w.length=1 then 1 else if w.length=2 then L.length+1 else L.length+1+L.length*L.length:=by
 unfold su;split
 .rfl
 split
 .rfl
 split
 .simp
 .simp only[aan,aao,abm,UZ,zuK];omega
def Uh{c:List af}(h:c∈su w L):c.length<w.length:=by
 unfold su at h;split at h
 .cases h
 .split at h
  .simp at h;subst h;simp;omega
  .split at h
   .simp at h
    rcases h with rfl|⟨a,_,rfl⟩
    .simp;omega
    .simp;omega
   .simp[UZ] at h
    rcases h with rfl|⟨a,_,rfl⟩|⟨a,_,b,_,rfl⟩
    .simp;omega
    .simp;omega
    .simp;omega
def Ui{c:List af}(h:c∈su w L):∀x∈c,x∈L:=by
 unfold su at h;split at h
 .cases h
 .split at h
  .simp at h;subst h;simp
  .split at h
   .simp at h
    rcases h with rfl|⟨a,d,rfl⟩<;>simp_all
   .simp[UZ] at h
    rcases h with rfl|⟨a,d,rfl⟩|⟨a,d,b,e,rfl⟩<;>simp_all
end
def uK(hit:Nat->List af->Bool):List (List af)->Nat->Option (Nat×List af)
 | [],_=>none
 | c::l,k=>if hit k c=true then some (k,c) else uK hit l (k+1)
def zp9{hit:Nat->List af->Bool}:∀{l:List (List af)} {k:Nat},(∀j<l.length,∀c,l[j]?=some c->hit (k+j) c=false)->uK hit l k=none
 | [],_,_=>rfl
 | c::l,k,h=>by
  rw[uK,if_neg (by rw[show k=k+0 by rfl,h 0 ir c rfl];simp)]
  exact zp9 λj b c a=>by rw[show k+1+j=k+(j+1) by omega];exact h (j+1) (by simp;omega) c (by simpa using a)
def zuL{hit:Nat->List af->Bool}{c:List af}:∀{l:List (List af)} {k j:Nat},l[j]?=some c->hit (k+j) c=true->(∀i<j,∀c,l[i]?=some c->hit (k+i) c=false)->uK hit l k=some (k+j,c)
 | [],_,_,h,_,_=>by simp at h
 | d::l,k,0,h,a,_=>by
  simp only[abn,ab5.injEq] at h;subst h;rw[ace] at a
  rw[uK,if_pos a];rfl
 | d::l,k,j+1,h,a,b=>by
  rw[uK,if_neg (by rw[show k=k+0 by rfl,b 0 an d rfl];simp)];rw[show k+(j+1)=k+1+j by omega] at a |-
  exact zuL (by simpa using h) a λi hi c e=>by rw[show k+1+i=k+(i+1) by omega];exact b (i+1) an c (by simpa using e)
open Go Go.RowKit
variable {G:aK}
def zCX[fI G]{H:ae}(fM:im H){id i1 i2:Nat}{w L:List af}{tk:Tk}(C5:w.length<=1000)(hL:L.length<=1000)
  (f:H[i1]?=some (some (.cells [.vs (IL w) .no]))) (M:H[i2]?=some (some (.cells [.vs (IL L) .no]))) (bI:id<H.length) {hit:Nat->List af->Bool} {H':Nat->List af->ae}
  (yb:∀k c,(su w L)[k]?=some c->hit k c=false->∀X:ae,(∀n,X.map (aau (ax.cl n))=X)->YS G id [.int .i64 k,.vs (IL c) .full] (H++X) true (H++X))
  (iI:∀k c,(su w L)[k]?=some c->hit k c=true->∀X:ae,(∀n,X.map (aau (ax.cl n))=X)->YS G id [.int .i64 k,.vs (IL c) .full] (H++X) false (H' k c++X))
  (oe:∀k c,(su w L)[k]?=some c->hit k c=true->ak H.length (H' k c)=H' k c/\(H' k c).length=H.length) :
  SF G 328 [.yld id,.ptr i1 0,.ptr i2 0] H (.a_ []) (match uK hit (su w L) 0 with|some p=>H' p.1 p.2|none=>H):=by
 refine km fI.afh (aaj rfl) ?_;have Fl:i1<H.length:=(aab.1 f).1;have N:i2<H.length:=(aab.1 M).1;have B:=fM.self;have rV:=fM.back;have g1:=(aab.1 f).2;have g2:=(aab.1 M).2
 have e1:∀X:ae,(H++X)[i1]?=some (some (.cells [.vs (IL w) .no])):=λX=>by rw[aaf Fl];exact f
 have e2:∀X:ae,(H++X)[i2]?=some (some (.cells [.vs (IL L) .no])):=λX=>by rw[aaf N];exact M
 have HT:∀(X:ae) h,(H++X)[i1]'h=some (.cells [.vs (IL w) .no]):=λX h=>(aab.1 (e1 X)).2;have CJ:∀(X:ae) h,(H++X)[i2]'h=some (.cells [.vs (IL L) .no]):=λX h=>(aab.1 (e2 X)).2;have k0:∀(r:ae) x,(H++r).set H.length x=H++r.set 0 x:=λr x=>tN rfl x;have kk:∀r:ae,(H++r)[H.length]?=r[0]?:=λr=>oT rfl;have ha:∀(r:ae) x,(H++r).set (H.length+1) x=H++r.set 1 x:=λr x=>y8 rfl 1 x;have hb:∀r:ae,(H++r)[H.length+1]?=r[1]?:=λr=>rT rfl 1
 have O:=zFc (w:=w) (L:=L);have mb:∀x:af,(∀y∈x.cs,y.pure=true)=True:=λx=>eq_true (λy d=>by simp only[af.cs,aaG,aaH,or_false] at d;rcases d with rfl|rfl|rfl|rfl<;>rfl);have fC:∀x:af,x.cs.length=4:=λx=>rfl;have lO:∀x:af,x.cs.take 4=x.cs:=λx=>rfl;have nx:∀x:af,x.cs.map V.jA=x.cs:=λx=>rfl
 have kx:∀(x:af) n,ba n x.cs=x.cs:=λx n=>by simp[af.cs,ba,V.cl]
 obtain⟨C,P⟩:=bb (su w L);rw[<-P] at O |-
 have jR:∀n,C.length<=n->(∀j<n,∀c,C[j]?=some c->hit j c=false)->uK hit C 0=none:=λn g l=>zp9 λj o c a=>by rw[aa1];exact l j an c a
 have uP:∀k c,C[k]?=some c->hit k c=true->(∀j<k,∀c,C[j]?=some c->hit j c=false)->uK hit C 0=some (k,c):=λk c a b l=>by
  have:=zuL (hit:=hit) (k:=0) a (by rw[aa1];exact b) λi hi c a=>by rw[aa1];exact l i hi c a
  rwa[aa1] at this
 rw[<-P] at yb iI oe
 by_cases t:w.length=0
 .have g:uK hit C 0=none:=jR 0 (by rw[O,if_pos t];exact aav _) λj o=>by omega
  have Q:((w.length:Int)==0)=true:=by simp[t]
  simp[f,t,g,B]
 have Q:((w.length:Int)==0)=false:=aF an
 have D:C[0]?=some []:=by rw[P];exact zNc t
 simp[f,Q]
 cases E:hit 0 [] with
 | true =>
  have:=iI 0 [] D E [] (λn=>rfl);simp only[aaW,IL,ab0] at this;refine CY this ?_
  have F:=uP 0 [] D E λj o=>by omega
  obtain⟨I,R⟩:=oe 0 [] D E
  simp[F,I]
 | false =>
 have:=yb 0 [] D E [] (λn=>rfl);simp only[aaW,IL,ab0] at this;refine CY this ?_
 by_cases w1:w.length=1
 .have g:uK hit C 0=none:=jR 1 (by rw[O,if_neg t,if_pos w1];exact aav _) λj o c a=>by
   obtain rfl:j=0:=by omega
   rw[D] at a;cases a;exact E
  simp[f,w1,g,B]
 have he:((w.length:Int)==1)=false:=aF an
 have xH:2<=w.length:=an
 simp[f,M,he]
 have P1:∀j<1,∀c,C[j]?=some c->hit j c=false:=λj o c a=>by
  obtain rfl:j=0:=by omega
  rw[D] at a;cases a;exact E
 have qq:∀X:ae,(∀n,X.map (aau (ax.cl n))=X)->ak H.length (H++X)=H:=λX _=>rV X;obtain⟨u,v⟩:∃u:Nat->Nat,∀i,u i=i+1:=⟨_,λ_=>rfl⟩;have hk:u 0=1:=v 0;refine aM L.length (λi=>[(0,.yld id),(1,.ptr i1 0),(2,.ptr i2 0),(4,.int .i64 (u i:Nat)),(24,.vs (IL L) .no),(25,.int .i64 L.length),(26,.int .i64 i)]) (λ_=>H) (λi=>∀j<i+1,∀c,C[j]?=some c->hit j c=false) ?_ ?_
 .simp[aw,B,bI,Fl,N,hk];simpa using P1
 intro i hi l
 by_cases z:i<L.length
 .obtain⟨x,S⟩:=bb (L[i])
  have hg:L[i]?=some x:=by rw[aah z,S]
  have T:=rG z;rw[<-S] at T
  have a:C[i+1]?=some [x]:=by rw[P];exact zNd xH hg
  have J:∀n,([some (ax.cells x.cs)]:ae).map (aau (ax.cl n))=[some (ax.cells x.cs)]:=λn=>by simp[ax.cl,kx]
  have QC:∀n,([some (ax.cells x.cs)]:ae).map (aau (ax.cl n))=[some (ax.cells x.cs)]:=J;simp(disch:=omega)[bC,T,fC,lO,kk,k0,mb];have U:IL [x]=[x.cs]:=rfl
  cases b:hit (i+1) [x] with
  | true =>
   have d:=iI (i+1) [x] a b _ J;rw[U,<-v i] at d;refine CY d ?_;have F:=uP (i+1) [x] a b l;obtain⟨I,R⟩:=oe (i+1) [x] a b;rw[<-v i] at I R F
   simp[F,Qu I R]
  | false =>
   have d:=yb (i+1) [x] a b _ J;rw[U,<-v i] at d;refine CY d ?_
   have vi:∀j<i+1+1,∀c,C[j]?=some c->hit j c=false:=λj o c A=>by
    rcases aaw.1 o with h|rfl
    .exact l j h c A
    .rw[a] at A;cases A;exact b
   have a1:aD .i64 (u i:Int) 1=(u (i+1):Int):=by rw[v,v];exact bD an
   simp(disch:=omega)[z,bD,a1,aw,rV,bI,Fl,N,-aad];exact vi
 .have ay:i=L.length:=an
  subst ay;simp
  by_cases w2:w.length=2
  .have g:uK hit C 0=none:=jR (L.length+1) (by rw[O,if_neg t,if_neg w1,if_pos w2];exact aav _) l;simp[f,w2,g,B]
  have hl:((w.length:Int)==2)=false:=aF an
  have ho:3<=w.length:=an
  have nn:L.length*L.length<=1000000:=aca (Nat.mul_le_mul hL hL) ag7;simp[f,M,hl];obtain⟨s,U1⟩:∃s:Nat->Nat,∀i,s i=L.length+1+i*L.length:=⟨_,λ_=>rfl⟩
  have hp:s 0=L.length+1:=by rw[U1];omega
  have hr:u L.length=L.length+1:=v _;refine aM L.length (λi=>[(0,.yld id),(2,.ptr i2 0),(4,.int .i64 (s i:Nat)),(42,.vs (IL L) .no),(43,.int .i64 L.length),(44,.int .i64 i)]) (λ_=>H) (λi=>∀j<s i,∀c,C[j]?=some c->hit j c=false) ?_ ?_
  .simp[aw,B,bI,N,hp,hr];exact l
  intro i hi hQ;have wF:i*L.length<=L.length*L.length:=Nat.mul_le_mul_right _ hi
  by_cases z:i<L.length
  .obtain⟨x,S⟩:=bb (L[i])
   have hg:L[i]?=some x:=by rw[aah z,S]
   have T:=rG z;rw[<-S] at T
   have J:∀n,([some (ax.cells x.cs)]:ae).map (aau (ax.cl n))=[some (ax.cells x.cs)]:=λn=>by simp[ax.cl,kx]
   have hs:ak (H.length+1) (H++[some (.cells x.cs)])=H++[some (.cells x.cs)]:=by have:=(fM.app J).self;simpa using this
   have nA:∀r:ae,ak (H.length+1) (H++some (.cells x.cs)::r)=H++[some (.cells x.cs)]:=λr=>by
    have:=(fM.app J).back r;simpa using this
   have hz:(i+1)*L.length=i*L.length+L.length:=ab2 _ _;have hA:∀r:ae,(H++r)[i2]?=some (some (.cells [.vs (IL L) .no])):=e2;simp(disch:=omega)[bC,T,fC,lO,kk,k0,e2];obtain⟨e,K⟩:∃e:Nat->Nat,∀j,e j=L.length+1+(i*L.length+j):=⟨_,λ_=>rfl⟩
   have ht:e 0=s i:=by rw[K,U1];omega
   have QE:e L.length=s (i+1):=by rw[K,U1];omega
   have hu:∀j,e (j+1)=e j+1:=λj=>by rw[K,K];omega
   have hv:∀j,j<=L.length->e j<=2000000:=λj o=>by rw[K];omega
   refine aM L.length (λj=>[(0,.yld id),(2,.ptr i2 0),(4,.int .i64 (e j:Nat)),(8,.ptr H.length 0),(42,.vs (IL L) .no),(43,.int .i64 L.length),(44,.int .i64 i),(48,.vs (IL L) .no),(49,.int .i64 L.length),(50,.int .i64 j)]) (λ_=>H++[some (.cells x.cs)]) (λj=>∀m<e j,∀c,C[m]?=some c->hit m c=false) ?_ ?_
   .simp[aw,hs,show id<H.length+1 by omega,show i2<H.length+1 by omega,ht];exact hQ
   intro j o hR
   by_cases wT:j<L.length
   .obtain⟨y,d⟩:=bb (L[j])
    have LK:L[j]?=some y:=by rw[aah wT,d]
    have sO:=rG wT;rw[<-d] at sO
    have a:C[L.length+1+(i*L.length+j)]?=some [x,y]:=by rw[P];exact zNe ho hg LK
    have W:∀n,([some (ax.cells x.cs),some (ax.cells y.cs)]:ae).map (aau (ax.cl n))=[some (ax.cells x.cs),some (ax.cells y.cs)]:=λn=>by simp[ax.cl,kx]
    have U:IL [x,y]=[x.cs,y.cs]:=rfl;rw[<-K j] at a;have hw:=hv j an;have Y:=hu j;obtain⟨q,hq⟩:=bb (e j);rw[<-hq] at a hw Y
    have Ia:∀m<q,∀c,C[m]?=some c->hit m c=false:=by rw[hq];exact hR
    have a3:aD .i64 (q:Int) 1=((q+1:Nat):Int):=bD an;simp only[<-hq];simp(disch:=omega)[bC,sO,fC,lO,kk,hb,ha,mb]
    cases b:hit q [x,y] with
    | true =>
     have Z:=iI q [x,y] a b _ W;rw[U] at Z;refine CY Z ?_;have F:=uP q [x,y] a b Ia;obtain⟨I,R⟩:=oe q [x,y] a b
     simp[F,Qu I R]
    | false =>
     have Z:=yb q [x,y] a b _ W;rw[U] at Z;refine CY Z ?_
     have vi:∀m<q+1,∀c,C[m]?=some c->hit m c=false:=λm hm c A=>by
      rcases aaw.1 hm with h|rfl
      .exact Ia m h c A
      .rw[a] at A;cases A;exact b
     simp(disch:=omega)[wT,bD,a3,Y,aw,nA,show id<H.length+1 by omega,show i2<H.length+1 by omega,-aad];exact vi
   .obtain rfl:j=L.length:=by omega
    rw[QE] at hR;simp(disch:=omega)[QE,z,bD,aw,rV,bI,N,-aad,-aax];exact hR
  .have ay:i=L.length:=an
   subst ay;have g:uK hit C 0=none:=jR (s L.length) (by rw[U1,O,if_neg t,if_neg w1,if_neg w2];exact aav _) hQ;simp[g,B]
def QI:bc:=.seq (.region 0 [⟨some 11,.mv (.t 26),none⟩]) (.region 0 [⟨some 12,.mv (.t 27),none⟩])
def QJ:bc:=.block 1 (.seq (.seq (.region 0 [⟨some 28,.mv (.t 11),none⟩,⟨some 29,.load 1 false false (.t 5),none⟩,⟨some 30,.bin .geq (.t 28) (.t 29),none⟩]) (.cond (.t 30) (.exit 0) .skip)) (.seq (.keep [3,4,6,7,8,12])
 (.seq (.region 1 [⟨some 32,.load 1 false false (.t 3),none⟩,⟨some 33,.mv (.t 12),none⟩,⟨some 34,.load 1 false false (.t 4),none⟩,⟨some 35,.pcall 312 [.t 32,.t 33,.t 34],none⟩,⟨some 31,.mv (.t 35),none⟩,⟨some 36,.ext 0 (.t 31),none⟩,⟨some 37,.ext 1 (.t 31),none⟩,
  ⟨some 13,.alloc 0 (dO 0 none),none⟩,⟨none,.store 28 (.t 13) (.t 36),none⟩,⟨some 14,.mv (.t 37),none⟩]) (.seq (.keep [6,7,8,12,13]) (.seq (.region 0 [⟨some 38,.pX 0 (.t 13),none⟩,⟨some 39,.load 1 false false (.t 38),none⟩,⟨some 40,.bin .eql (.t 39) (.c (.int .i64 0)),none⟩])
   (.cond (.t 40) (.seq (.region 0 [⟨some 41,.mv (.t 12),none⟩,⟨none,.store 1 (.t 6) (.t 41),none⟩,⟨none,.store 1 (.t 7) (.c (.bool true)),none⟩,⟨none,.store 1 (.t 8) (.c (.int .i64 0)),none⟩]) .ret) .skip))))))
def Mn:List (Nat×V):=[(3,.ptr 0 0),(4,.ptr 1 0),(5,.ptr 2 0),(6,.ptr 3 0),(7,.ptr 4 0),(8,.ptr 5 0)]
def FH(w L:List af)(live:Nat)(tries:Int)(o:List af)(b:Bool)(st:AA):ae :=
 [some (.cells [.vs (IL w) .no]),some (.cells [.int .u32 live]),some (.cells [.int .i64 tries]),some (.cells [.vs (IL o) .full]),some (.cells [.bool b]),some (.cells [.int .i64 0]),some (.cells [.vs (IL w) .no]),some (.cells [.vs (IL L) .no]),some (.loop Mn [26,27] QI QJ st)]
section
variable {w L o:List af} {live:Nat} {tries:Int} {b:Bool} {st:AA}
def U2:im (FH w L live tries o b st):=by intro n a;simp only[FH,aan,abG] at a;simp[FH,Mn,ax.cl,ba,V.cl,Tk.cl,show 0<n by omega,show 1<n by omega,show 2<n by omega,show 3<n by omega,show 4<n by omega,show 5<n by omega]
noncomputable def sX(w:List af)(live:Nat)(tries:Int)(k:Nat)(c:List af):Bool:=decide (tries<=k)||decide ((eU w c live).1=0)
def zxk[eo G][dK G][aA G][aB G][bV G][dy G][du G][aO G][cV G][cW G][bX G][cf G][bO G][ar G][Dx:dQ G][cw G][aL G][bW G][cP G][eW G]
  (k:Nat) (c:List af) (p:w.length<=maxLen) (q:∀x∈w,x.k<4294967296) (s:live<4294967296) (t:c.length<=maxLen) (u:∀x∈c,x.k<4294967296) (X:ae) (v:∀n,X.map (aau (ax.cl n))=X) :
  YS G 8 [.int .i64 k,.vs (IL c) .full] (FH w L live tries [] false .ready++X) (!sX w live tries k c)
   (if tries<=k then FH w L live tries [] false (.done (.exit 0))++X else if(eU w c live).1=0 then FH w L live tries c true (.done .ret)++X else FH w L live tries [] false .ready++X):=by
 have nF:∀o b st,(FH w L live tries o b st).length=9:=λo b st=>rfl
 obtain⟨a,H',z,rfl,rfl⟩:=zFp (R:=λa H'=>a=(!sX w live tries k c)/\H'=(if tries<=k then FH w L live tries [] false (.done (.exit 0))++X else if(eU w c live).1=0 then FH w L live tries c true (.done .ret)++X else FH w L live tries [] false .ready++X))
  (G:=G) (H:=FH w L live tries [] false .ready++X) (id:=8) (args:=[.int .i64 k,.vs (IL c) .full]) (e0:=Mn) (ps:=[26,27]) (as:=QI) (bo:=QJ) rfl rfl (by
  have C:∀o b st d (r:ae),(FH w L live tries o b st++r).set 8 (some (.loop Mn [26,27] QI QJ d))=FH w L live tries o b d++r:=λo b st d r=>rfl;have f:∀o b st (r:ae),(FH w L live tries o b st++r)[8]?=some (some (.loop Mn [26,27] QI QJ st)):=λo b st r=>rfl;have D:∀o b st (r:ae),(FH w L live tries o b st++r)[0]?=some (some (.cells [.vs (IL w) .no])):=λo b st r=>rfl;have E:∀o b st (r:ae),(FH w L live tries o b st++r)[1]?=some (some (.cells [.int .u32 live])):=λo b st r=>rfl
  have F:∀o b st (r:ae),(FH w L live tries o b st++r)[2]?=some (some (.cells [.int .i64 tries])):=λo b st r=>rfl;have I:∀o b st (r:ae),(FH w L live tries o b st++r)[3]?=some (some (.cells [.vs (IL o) .full])):=λo b st r=>rfl;have J:∀o b st (r:ae),(FH w L live tries o b st++r)[4]?=some (some (.cells [.bool b])):=λo b st r=>rfl;have K:∀o b st (r:ae),(FH w L live tries o b st++r)[5]?=some (some (.cells [.int .i64 0])):=λo b st r=>rfl
  have M:∀o e b st (r:ae),(FH w L live tries o b st++r).set 3 (some (.cells [.vs (IL e) .full]))=FH w L live tries e b st++r:=λo e b st r=>rfl;have N:∀o b a st (r:ae),(FH w L live tries o b st++r).set 4 (some (.cells [.bool a]))=FH w L live tries o a st++r:=λo b a st r=>rfl;have O:∀o b st (r:ae),(FH w L live tries o b st++r).set 5 (some (.cells [.int .i64 0]))=FH w L live tries o b st++r:=λo b st r=>rfl
  have h:∀o b st (r:ae),ak (9+X.length) (FH w L live tries o b st++(X++r))=FH w L live tries o b st++X:=λo b st r=>by
   have:=((U2 (w:=w) (L:=L) (live:=live) (tries:=tries) (o:=o) (b:=b) (st:=st)).app v).back r;rw[aap,aao,nF] at this;exact this
  have i:∀o b st,ak (9+X.length) (FH w L live tries o b st++X)=FH w L live tries o b st++X:=λo b st=>by
   have:=h o b st [];simpa using this
  have kk:∀o b st (r:ae),(FH w L live tries o b st++(X++r))[9+X.length]?=r[0]?:=λo b st r=>by
   rw[<-aap];exact oT (by simp[nF])
  have P:∀o b st (r:ae) y,(FH w L live tries o b st++(X++r)).set (9+X.length) y=FH w L live tries o b st++(X++r.set 0 y):=λo b st r y=>by
   rw[<-aap,tN (by simp[nF]),aap]
  have hd:=zuF (G:=G) w c live p t q u s;simp only[FL] at hd;obtain⟨A,l⟩:=bb (dO 0 none)
  have Q:A.length=28:=by rw[l];rfl
  obtain⟨g,B,S,T,kB,U,W⟩:∃(g:Int) (B:List V),(eU w c live).1=g/\B=dO (eU w c live).1 (eU w c live).2/\(∀n,ba n B=B)/\B.length=28/\B.take 1=[.int .i64 g] :=
   ⟨_,_,rfl,rfl,λn=>Uo _ _ n,zxg w c live,zzk _ _⟩
  have tB:B.take 28=B:=aae an;have Y:A.drop 28=[]:=aai an;rw[<-T] at hd;simp only[sX,S];simp[QI,Mn,sC];refine⟨_,_,_,_,f _ _ _ _,?_⟩;rw[C];simp[QJ,nF,F];have Z:∀o e b st,(FH w L live tries o b st).set 3 (some (.cells [.vs (IL e) .full]))=FH w L live tries e b st:=λo e b st=>rfl;have ha:∀o b a st,(FH w L live tries o b st).set 4 (some (.cells [.bool a]))=FH w L live tries o a st:=λo b a st=>rfl
  have hb:∀o b st,(FH w L live tries o b st).set 5 (some (.cells [.int .i64 0]))=FH w L live tries o b st:=λo b st=>rfl
  by_cases m:tries<=(k:Int)
  .simp[m,f];exact⟨_,_,_,_,⟨rfl,rfl,rfl,rfl⟩,i _ _ _⟩
  simp[m,nF,D,E];refine au hd ?_;simp[nF,<-l,Q,U,Y,P,W]
  by_cases j:g=0
  .simp[j,nF,I,J,K,M,N,O,f];exact⟨_,_,_,_,⟨rfl,rfl,rfl,rfl⟩,h _ _ _ _⟩
  .simp[j,aF j,nF,f]
   exact⟨_,_,_,_,⟨rfl,rfl,rfl,rfl⟩,h _ _ _ _⟩)
 exact z
end
def zCY{L:List Nd}(h:Inv L){x:Int}{c:Nat}(e:dx L x=some c):c<4294967296:=by
 unfold dx at e;split at e
 .cases b:L[x.toNat]? with
  | none=>rw[b] at e;cases e
  | some a =>
   rw[b] at e;simp only[Option.bind_some,qy] at e;split at e
   .exact yF e (h.wf a (aaA b)).1
   .cases e
 .cases e
def zzn{w:List af}(b:∀x∈w,x.k<4294967296)(j:aY w=true):∀n∈lg w++Ac w,n<4294967296:=by
 have hi:Inv (aQ [] w).L:=(Cp Inv.nil w b).ext.inv;intro n a;rw[aa4] at a
 rcases a with a|a
 .simp only[lg,abE,List.mem_filter] at a;obtain⟨x,⟨e,_⟩,rfl⟩:=a;exact b x e
 .simp only[Ac,aa4,Option.mem_toList] at a
  have c:∀v,dw v (aQ [] w).L ((aQ [] w).p.getD 0 0)=some n->n<4294967296:=λv h=>by
   have f:0<=(aQ [] w).p.getD 0 0:=by
    unfold dw at h;split at h
    .rename_i d;simp only[cD,decide_eq_true_eq] at d;exact d.1
    .cases h
   obtain⟨i,g⟩:=aay f;rw[g] at h;exact ztd hi h
  rcases a with h|h|h
  .exact zCY hi h
  .exact c _ h
  .exact c _ h
noncomputable def ia(w:List af):List af:=Hd w (lg w++Ac w)
def zNf{l:List af}{x:af}(a:∀y∈l,y.k<4294967296)(b:x.k<4294967296):∀y∈qR l x,y.k<4294967296:=by
 unfold qR;split
 .exact a
 .split
  .intro y c
   rcases aa4.1 c with h|h
   .exact a y h
   .rw[abT.1 h];exact b
  .exact a
def U3:∀{xs l:List af},(∀y∈l,y.k<4294967296)->(∀y∈xs,y.k<4294967296)->∀y∈fX l xs,y.k<4294967296
 | [],_,a,_=>a
 | x::xs,l,a,b=>by
  show ∀y∈fX (qR l x) xs,y.k<4294967296;exact U3 (zNf a (b x ir)) λy c=>b y (by simp[c])
def zCZ{w:List af}{b:List Nat}(c:∀x∈w,x.k<4294967296)(d:∀n∈b,n<4294967296):∀y∈Hd w b,y.k<4294967296:=by
 refine U3 (U3 (U3 ir c) ?_) ?_
 .intro y a;simp only[aaG,aaH,or_false] at a
  rcases a with rfl|rfl<;>decide
 .intro y a;simp only[List.mem_flatMap,nH,abE] at a;obtain⟨n,e,o,_,rfl⟩:=a;exact d n e
def zxY(w:List af)(b:List Nat):(Hd w b).length<=w.length+2+6*b.length:=by
 unfold Hd;have c:=DE w [];have d:=DE [⟨7,0,0,0⟩,⟨135,0,0,0⟩] (fX [] w);have f:=DE (b.flatMap nH) (fX (fX [] w) [⟨7,0,0,0⟩,⟨135,0,0,0⟩])
 have g:(b.flatMap nH).length=6*b.length:=by
  generalize b=l
  induction l with
  | nil=>rfl
  | cons a l e=>rw[abu,aao,e,aan];simp[nH,Cz];omega
 simp at c d;omega
def zFd(w:List af):(Ac w).length<=3:=by
 have a:∀o:Option Nat,o.toList.length<=1:=λo=>by cases o<;>simp
 have b:=a (dx (aQ [] w).L ((aQ [] w).p.getD 0 0));have c:=a (dw (aP 34) (aQ [] w).L ((aQ [] w).p.getD 0 0));have d:=a (dw (4294967295::aP 33) (aQ [] w).L ((aQ [] w).p.getD 0 0));rw[Ac,aao,aao];omega
def zsl{w:List af}(a:∀x∈w,x.k<4294967296)(b:aY w=true):∀y∈ia w,y.k<4294967296:=zCZ a (zzn a b)
def zxl{w:List af}(a:aY w=true):(ia w).length<=300:=by
 have c:w.length<=32:=by simp only[aY,aak,decide_eq_true_eq] at a;exact a.1
 have b:=zxY w (lg w++Ac w);have d:=UU w;have e:=zFd w;rw[aao] at b;unfold ia;omega
def zHb[fI G](H:ae)(w L:List af):bE G (.F 329 [.vs (IL w) .no,.vs (IL L) .no] H (.fn 328 [.ptr H.length 0,.ptr (H.length+1) 0]) (H++[some (.cells [.vs (IL w) .no]),some (.cells [.vs (IL L) .no])])):=by refine fh fI.afi (aaj rfl) ?_;simp
noncomputable def jS(w:List af)(live:Nat)(tries:Int):Option (List af) :=
 match uK (sX w live tries) (su w (ia w)) 0 with
 | some p=>if tries<=p.1 then none else some p.2
 | none=>none
def zsm{hit:Nat->List af->Bool}{p:Nat×List af}:∀{l:List (List af)} {k:Nat},uK hit l k=some p->k<=p.1/\l[p.1-k]?=some p.2/\hit p.1 p.2=true
 | [],_,h=>by cases h
 | c::l,k,h=>by
  rw[uK] at h;split at h
  .rename_i a;cases h;exact⟨aav _,ir,a⟩
  .obtain⟨e,b,d⟩:=zsm h;refine⟨an,?_,d⟩;rw[show p.1-k=(p.1-(k+1))+1 by omega];exact b
def zHc[eo G][dK G][aA G][aB G][bV G][dy G][du G][aO G][cV G][cW G][bX G][cf G][bO G][ar G][y:dQ G][cw G][aL G][c_ G][bW G][cP G][eW G][f_ G][fH G][fI G][iP G]
  (w:List af) (live:Nat) (tries:Int) (q:w.length<=maxLen) (j:∀x∈w,x.k<4294967296) (i:aY w=true) (u:live<4294967296) :
  FP G 333 [FL w,.int .u32 live,.int .i64 tries] (.a_ [FL ((jS w live tries).getD []),.bool (jS w live tries).isSome,.int .i64 0]):=by
 haveI:jb G:=y.tojb
 refine bt iP.afj (aaj rfl) ?_;have m:=zAt (G:=G) w q j i (zzn j i);have g:=zsl j i;have r:=zxl i
 have z:w.length<=32:=by simp only[aY,aak,decide_eq_true_eq] at i;exact i.1
 have a:jS w live tries=jS w live tries:=rfl
 conv at a=>rhs;unfold jS
 change FP G 330 [FL w] (.a_ [FL (ia w),.int .i64 0]) at m;generalize ia w=L at m g r a;simp only[FL] at m;simp[FL];refine au m ?_;simp;refine u5 (zHb _ w L) ir ?_;simp
 have e:=zCX (G:=G) (H:=FH w L live tries [] false .ready) U2 (id:=8) (i1:=6) (i2:=7) (w:=w) (L:=L) (tk:=.no) an an rfl rfl (show 8<9 by decide) (hit:=sX w live tries)
  (H':=λk c=>if tries<=(k:Int) then FH w L live tries [] false (.done (.exit 0)) else FH w L live tries c true (.done .ret))
  (λk c n f X s=>by
   have l:=aaA n;have:=zxk (G:=G) (L:=L) (tries:=tries) k c q j u (by have:=Uh l;simp only[maxLen];omega) (λx t=>g x (Ui l x t)) X s;rw[f] at this;simp only[sX,ab8,decide_eq_false_iff_not] at f;rw[if_neg f.1,if_neg f.2] at this
   exact this)
  (λk c n f X s=>by
   have l:=aaA n;have:=zxk (G:=G) (L:=L) (tries:=tries) k c q j u (by have:=Uh l;simp only[maxLen];omega) (λx t=>g x (Ui l x t)) X s;rw[f] at this;simp only[sX,Bool.or_eq_true,decide_eq_true_eq] at f
   by_cases d:tries<=(k:Int)
   .rw[if_pos d] at this |-;exact this
   .rw[if_neg d,if_pos (f.resolve_left d)] at this;rw[if_neg d]
    exact this)
  (λk c n f=>by
   by_cases d:tries<=(k:Int)
   .rw[if_pos d];exact⟨(U2 (w:=w) (L:=L) (live:=live) (tries:=tries) (o:=[]) (b:=false) (st:=.done (.exit 0))).self,rfl⟩
   .rw[if_neg d];exact⟨(U2 (w:=w) (L:=L) (live:=live) (tries:=tries) (o:=c) (b:=true) (st:=.done .ret)).self,rfl⟩)
 have h:∀o b st,ak 8 (FH w L live tries o b st)=[some (.cells [.vs (IL w) .no]),some (.cells [.int .u32 live]),some (.cells [.int .i64 tries]),some (.cells [.vs (IL o) .full]),some (.cells [.bool b]),some (.cells [.int .i64 0]),some (.cells [.vs (IL w) .no]),some (.cells [.vs (IL L) .no])]:=λo b st=>by
  simp[ak,FH,ax.cl,ba,V.cl,Tk.cl]
 cases v:uK (sX w live tries) (su w L) 0 with
 | none =>
  rw[v] at e a;simp only[] at e a;refine QA e rfl (.inl ⟨rfl,rfl⟩) ?_
  simp[h,a]
 | some p =>
  rw[v] at e a;simp only[] at e a
  by_cases d:tries<=(p.1:Int)
  .rw[if_pos d] at e a;refine QA (x:=.exit 0) e rfl (.inr ⟨rfl,ir⟩) ?_;simp[h,a]
  .rw[if_neg d] at e a;refine QA (x:=.ret) e rfl (.inr ⟨rfl,ir⟩) ?_;simp[h,a]
open Go Go.RowKit
variable {G:aK}
section
variable {w L o:List af} {q:Int} {b:Bool} {st:AA}
end
def Da0:Da:=⟨0,0,0,aP 6⟩
def zC0:Da0.ok:=⟨ag7,ag7,ag7,by simp[Da0],λw a=>by
 simp only[Da0,aP,List.mem_replicate] at a
 omega⟩
end Go.Ev
