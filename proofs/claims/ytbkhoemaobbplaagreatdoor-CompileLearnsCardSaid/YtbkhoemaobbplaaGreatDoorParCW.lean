/- Conditions read off any text: contracts. -/
import Derived.Test.YtbkhoemaobbplaaGreatDoorRunAW
import Derived.Test.YtbkhoemaobbplaaGreatDoorEvMW
import Derived.Test.YtbkhoemaobbplaaGreatDoorEvWinCW
set_option linter.defProp false
set_option linter.unusedSimpArgs false
set_option linter.unusedVariables false
set_option maxHeartbeats 16000000
set_option maxRecDepth 10000
open Int renaming natCast_add->aab,natCast_mul->abF,natCast_ediv->abV,natCast_emod->abX
open Nat renaming le_of_ble_eq_true->aad,eq_or_lt_of_le->aaj,le_refl->aaF,not_lt_zero->aaI,zero_add->abc,le_of_lt_succ->abg,lt_or_ge->aby,zero_le->abG,mod_eq_of_lt->abU,sub_self->ab7,pow_succ->ab9
open List renaming getElem?_eq_some_iff->aae,getElem?_eq_getElem->aaf,mem_map->aag,mem_of_getElem?->aah,mem_append->aai,getElem?_append_right->aal,map_append->aam,getElem?_append_left->aan,cons_append->aao,mem_singleton->aar,set_append_right->aas,length_append->aat,take_length->aau,take_add_one->aay,nodup_append->aaz,length_take->aaA,take_of_length_le->aaG,mem_cons->aaH,mem_of_mem_tail->aaJ,mem_of_mem_take->aaK,getElem?_map->aaM,getElem?_of_mem->aaO,getElem?_set_ne->aaP,length_cons->aaQ,takeWhile_append_dropWhile->aaR,nil_append->aaV,append_nil->aaW,drop_eq_nil_of_le->aaZ,getElem?_set_self->aa1,append_assoc->aa3,not_mem_nil->aa4,set_append_left->aa9,all_eq_true->aa_,length_pos_iff->aba,drop_eq_getElem_cons->abb,length_eq_zero_iff->abd,cons->abi,length_filter_le->abl,length_set->abn,length_take_le->abp,drop_succ_cons->abq,getElem?_drop->abv,takeWhile_cons_of_pos->abw,getElem?_set->abx,map_set->abA,length_nil->abB,length_map->abC,mem_filter->abE,drop_eq_nil_iff->abJ,map_congr_left->abK,filter_append->abL,ext_getElem?->abT,headD_cons->abY,tail_cons->ab1,drop_drop->ab2,drop_zero->ab3,map_cons->ab4,map_map->ab8,map_nil->ab_,length->acb,range->ace
open Option renaming isSome_iff_exists->aap,map->aaq,getD_some->aaC,some->aa2,not_isNone->abe,map_eq_some_iff->abI,map_some->abZ,toList->ab6
open Bool renaming and_eq_true->aaL,false_or->abh,or_eq_false_iff->abo,eq_iff_iff->ab0
open UInt8 renaming ofNat->aa0,toNat_inj->abm,toNat_ofNat'->abt,toNat->aca
open Prod renaming ext->abr,mk->acd
namespace Go.Ev
open Go Go.RowKit
variable {G:aP}
def fE(m:UInt8)(s:List UInt8):List UInt8:=s.takeWhile (· !=m)
def h_(m:UInt8)(s:List UInt8):List UInt8:=s.drop ((fE m s).length+1)
def DR(m:UInt8):∀s,(fE m s).length<=s.length/\s.take (fE m s).length=fE m s/\(∀j,j<(fE m s).length->s[j]?≠some m)/\((fE m s).length<s.length->s[(fE m s).length]?=some m)/\∀b∈fE m s,b≠m
 | []=>⟨aaF _,rfl,λj h=>absurd h (aaI _),λh=>absurd h (aaI _),λb h=>by simp[fE] at h⟩
 | a::s=>by
  obtain⟨c,d,e,f,g⟩:=DR m s
  by_cases h:a=m
  .subst h
   have:fE a (a::s)=[]:=by simp[fE]
   rw[this];exact⟨abG _,rfl,λj h=>absurd h (aaI _),λ_=>rfl,λb h=>by simp at h⟩
  .have:fE m (a::s)=a::fE m s:=by unfold fE;rw[abw (by simpa using h)]
   rw[this];refine⟨by simpa using c,by simp[d],?_,by simpa using f,?_⟩
   .intro j i
    cases j with
    | zero=>simpa using h
    | succ j=>simpa using e j (by simpa using i)
   .intro b hb
    rcases aaH.1 hb with rfl|hb
    .exact h
    .exact g b hb
def zzX{m:UInt8}{s:List UInt8}(h:(fE m s).length<s.length):s=fE m s++m::h_ m s:=by
 obtain⟨e,a,f,b,g⟩:=DR m s;have c:=b h;obtain⟨_,d⟩:=aae.1 c
 conv=>lhs;rw[<-List.take_append_drop (fE m s).length s,a,abb h,d]
 rfl
def zEF{m:UInt8}{s:List UInt8}(h:¬(fE m s).length<s.length):fE m s=s/\h_ m s=[]:=by
 obtain⟨b,a,_⟩:=DR m s
 have:s.length<=(fE m s).length:=an
 exact⟨by rw[<-a];exact aaG this,aaZ an⟩
def Zf{m:UInt8}{s:List UInt8}(h:h_ m s≠[]):s=fE m s++m::h_ m s:=by
 by_cases a:(fE m s).length<s.length
 .exact zzX a
 .exact absurd (zEF a).2 h
def Iq{w r:List UInt8}(h:fX w):fE 32 (w++32::r)=w/\h_ 32 (w++32::r)=r:=by have:=Zg (r:=r) h;unfold h_;rw[show fE 32 (w++32::r)=w from this.1];exact⟨rfl,this.2⟩
def Zh(m:UInt8)(s:List UInt8):(h_ m s).length<=s.length:=by unfold h_;simp
def Zi[gD G](s:List UInt8)(A:s.length<4611686018427387904):FP G 459 [.str s] (.bf [.str (fE 32 s),.str (h_ 32 s)]):=by
 refine bA gD.aeS (aad rfl) ?_;obtain⟨f,a,g,c,_⟩:=DR 32 s;obtain⟨w,h⟩:=ax (fE 32 s);rw[<-h] at f a g c |-
 have k:h_ 32 s=s.drop (w.length+1):=by rw[h];rfl
 rw[k];simp;refine wq (S:=Nat) (λi=>s.length+1-i) (λi=>[(0,.str s),(7,.ptr 0 0)]) (λi=>[some (.dF s i)]) (λi=>i<=w.length) 0 ?_ ?_
 .simp[au,ak]
 intro i hi
 by_cases l:i<w.length
 .obtain⟨r,n,d,o,B,C⟩:=Zj (m:=32) aga l f (λj _ p=>g j p) c
  have q:i<s.length:=an
  have t:((r:Int)==32)=false:=Ir (b:=32) o;simp[q,d,t,au,ak];exact⟨i+n,by simp only;omega,an,by simp[au],by simp[ak]⟩
 .have hi:i=w.length:=an
  subst hi
  by_cases e:w.length<s.length
  .have d:=Is (c e) aga;have u:((w.length:Int)<=(s.length:Int))=True:=af8
   have v:aB .i64 (w.length:Int) 1=((w.length+1:Nat):Int):=by rw[eB]<;>omega
   have x:(s.drop (w.length+1)).take (s.length-(w.length+1))=s.drop (w.length+1):=aaG ir;have y:(((w.length+1:Nat):Int)<=(s.length:Int))=True:=af8;simp[e,d,u,v,x,y,a,au,ak,-aab]
  .have hd:s.drop (w.length+1)=[]:=aaZ an
   have z:w=s:=by rw[<-a];exact aaG an
   simp[e,hd,z,au,ak]
def vq(o:Option Cd):V:=.bf [.agg (o.getD ⟨0,0,0,0⟩).cs,.int .i64 (if o=none then 2 else 0)]
def zwi{s:List UInt8}{c:Cd}(a:c.du):aO (kJ c)=s ↔
  fE 32 s=[97,aa0 (48+c.arg.toNat)]/\dG (fE 32 (h_ 32 s))=some c.mask/\fE 32 (h_ 32 (h_ 32 s))=iF c.cmp/\dG (h_ 32 (h_ 32 (h_ 32 s)))=some c.val:=by
 have w:=Sl a;simp only[kJ,aaH,aa4,or_false,forall_eq_or_imp,forall_eq] at w;obtain⟨k,l,n,_⟩:=w;constructor
 .intro h;rw[show aO (kJ c)=[97,aa0 (48+c.arg.toNat)]++32::(br c.mask++32::(iF c.cmp++32::br c.val)) from rfl] at h;have b:=Iq (r:=br c.mask++32::(iF c.cmp++32::br c.val)) k;have f:=Iq (r:=iF c.cmp++32::br c.val) l;have g:=Iq (r:=br c.val) n;rw[h] at b;rw[b.2,f.1,f.2,g.1,g.2];exact⟨b.1,Sm a.2.1,rfl,Sm a.2.2⟩
 .rintro⟨o,p,q,t⟩;have i:=(zP t).2;have u:=(zP p).2;have d:=Zf (m:=32) (s:=h_ 32 (h_ 32 s)) (by rw[<-i];exact zvA _);have e:=Zf (m:=32) (s:=h_ 32 s) (by rw[d];simp);have j:=Zf (m:=32) (s:=s) (by rw[e];simp);rw[<-i,q] at d;rw[<-u,d] at e;rw[o,e] at j;rw[j];rfl
def zu9{s:List UInt8}{c:Cd}(a:c.du)(h:aO (kJ c)=s):dQ s=some c:=by rw[<-h];exact Zk a
def zva(f:Nat->Bool):∀n,∃N,N<=n/\(∀i,i<N->f i=false)/\(N<n->f N=true)
 | 0=>⟨0,aaF _,λi h=>absurd h (aaI _),λh=>absurd h (aaI _)⟩
 | n+1=>by
  obtain⟨N,d,a,c⟩:=zva f n
  rcases aby N n with h|h
  .exact⟨N,an,a,λ_=>c h⟩
  .have:N=n:=an
   subst this
   cases b:f N with
   | true=>exact⟨N,an,a,λ_=>b⟩
   | false=>exact⟨N+1,aaF _,λi hi=>by rcases aby i N with h|h;exact a i h;rw[show i=N by omega,b],λh=>absurd h (Nat.lt_irrefl _)⟩
def ztK[cW G][dm G][gD G](s:List UInt8)(T:s.length<4611686018427387904):FP G 460 [.str s] (vq (dQ s)):=by
 refine bA gD.aeT (aad rfl) ?_;have l1:=Zh 32 s;have l2:=Zh 32 (h_ 32 s);have l3:=Zh 32 (h_ 32 (h_ 32 s));have l4:=(DR 32 (h_ 32 s)).1;have q1:=Zi (G:=G) s T;have o:=Zi (G:=G) (h_ 32 s) an;have p:=Zi (G:=G) (h_ 32 (h_ 32 s)) an;have p1:=So (G:=G) (fE 32 (h_ 32 s)) an;have p2:=So (G:=G) (h_ 32 (h_ 32 (h_ 32 s))) an;have f:=λc b=>zwi (s:=s) (c:=c) b
 generalize hA:fE 32 s=A at *;generalize hM:fE 32 (h_ 32 s)=M at *;generalize hC:fE 32 (h_ 32 (h_ 32 s))=C at *;generalize hV:h_ 32 (h_ 32 (h_ 32 s))=V3 at *;generalize h_ 32 (h_ 32 s)=R2 at *;generalize h_ 32 s=R1 at *
 have r:(∀c:Cd,c.du->¬(A=[97,aa0 (48+c.arg.toNat)]/\dG M=some c.mask/\C=iF c.cmp/\dG V3=some c.val))->dQ s=none :=
  λh=>FU λc b=>h c b.1 ((f c b.1).1 b.2)
 by_cases d:A.length=2
 .obtain⟨x,y,rfl⟩:∃x y,A=[x,y]:=by
   match A,d with
   | [x,y],_=>exact⟨x,y,rfl⟩
  by_cases t:x=97/\48<=y.toNat/\y.toNat<=53
  .obtain⟨rfl,y1,y2⟩:=t;have U:((y.toNat:Int)<48)=False:=af9;have W:(53<(y.toNat:Int))=False:=af9
   have X:cL .u8 (y.toNat:Int) 48=((y.toNat-48:Nat):Int):=by unfold cL;rw[show(y.toNat:Int)-48=((y.toNat-48:Nat):Int) by omega];exact IntWalk.u8_in _ ⟨an,an⟩
   have Y:eO .i64 ((y.toNat-48:Nat):Int)=((y.toNat-48:Nat):Int):=IntWalk.i64_in _ ⟨an,an⟩
   have ya:∀a:Int,0<=a->a<=5->y=aa0 (48+a.toNat)->a=((y.toNat-48:Nat):Int):=by intro a qj jk h;rw[h,abt];omega
   have u:y=aa0 (48+(((y.toNat-48:Nat):Int)).toNat):=by apply abm.1;rw[abt];omega
   obtain⟨N,n1,I,J⟩:=zva (λi=>(iF (i:Int)==C)&&(dG M).isSome&&(dG V3).isSome) 6
   have z:dQ s=if N<6 then some ⟨((y.toNat-48:Nat):Int),N,(dG M).getD 0,(dG V3).getD 0⟩ else none:=by
    split
    .rename_i j;have h:=J j;simp only[aaL,beq_iff_eq] at h;obtain⟨m,B⟩:=aap.1 h.1.2;obtain⟨v,D⟩:=aap.1 h.2;rw[B,D];have K:(⟨((y.toNat-48:Nat):Int),N,m,v⟩:Cd).du:=⟨by simp only[Cd.right,decide_eq_true_eq];omega,(zP B).1,(zP D).1⟩;exact zu9 K ((f _ K).2 ⟨by simp only;rw[<-u],B,h.1.1.symm,D⟩)
    .rename_i j
     refine r λc b ⟨e,Z,g3,g4⟩=>?_
     have E:=b.1;simp only[Cd.right,decide_eq_true_eq] at E;have:=I c.cmp.toNat an;rw[show((c.cmp.toNat:Nat):Int)=c.cmp by omega,Z,g4,g3] at this;simp at this
   rw[z];simp;refine aw q1 ?_;simp;refine aw o ?_;simp;refine aw p ?_;simp[U,W];refine aw p1 ?_;simp;refine aw p2 ?_;simp;refine aw zvw ?_
   obtain⟨k,L⟩:∃k:Int,k=if dG M=none then 2 else 0:=⟨_,rfl⟩
   obtain⟨l,O⟩:∃l:Int,l=if dG V3=none then 2 else 0:=⟨_,rfl⟩
   have step:∀w:List UInt8,((w==C)&&(dG M).isSome&&(dG V3).isSome)=false->(w==C)=false\/(w==C)=true/\(dG M).isSome=false\/(w==C)=true/\(dG M).isSome=true/\(dG V3).isSome=false:=by intro w h;revert h;generalize(w==C)=p1;generalize(dG M).isSome=p2;generalize(dG V3).isSome=p3;revert p1 p2 p3;decide
   have P:(k==0)=(dG M).isSome:=by rw[L];cases dG M<;>rfl
   have Q:(l==0)=(dG V3).isSome:=by rw[O];cases dG V3<;>rfl
   rw[<-L,<-O];generalize(dG M).getD 0=m at *;generalize(dG V3).getD 0=v at *;generalize(dG M).isSome=i1 at *;generalize(dG V3).isSome=i2 at *;simp;refine aN N (λi=>[(2,.ptr 0 0),(4,.str [97,y]),(7,.str C),(9,.int .u64 m),(10,.int .i64 k),(11,.int .u64 v),(12,.int .i64 l),(59,.agg It),(60,.int .i64 i)]) (λ_=>[some (.cells [.int .i64 0,.int .i64 0,.int .u64 0,.int .u64 0])]) (λ_=>True) ?_ ?_
   .simp[au,ak,a_,V.cl,It]
   intro i hi _
   rcases aaj hi with R|S
   .by_cases j:N<6
    .have h:=J j;simp only[aaL,beq_iff_eq] at h;obtain⟨⟨h,rfl⟩,rfl⟩:=h;subst R
     have:i=0\/i=1\/i=2\/i=3\/i=4\/i=5:=an
     rcases this with rfl|rfl|rfl|rfl|rfl|rfl<;>subst h<;>simp[iF,It,Cd.cs,X,Y,P,Q,vq]
    .have:N=6:=an
     subst this;subst R;simp[vq,Cd.cs]
   .have hp:=I i S
    have:i=0\/i=1\/i=2\/i=3\/i=4\/i=5:=an
    rcases this with rfl|rfl|rfl|rfl|rfl|rfl
    all_goals rcases step _ hp with h|⟨h,rfl⟩|⟨h,rfl,rfl⟩
    all_goals
     first
     | change (([101,113]:List UInt8)==C)=_ at h
     | change (([110,101]:List UInt8)==C)=_ at h
     | change (([108,116]:List UInt8)==C)=_ at h
     | change (([108,101]:List UInt8)==C)=_ at h
     | change (([103,116]:List UInt8)==C)=_ at h
     | change (([103,101]:List UInt8)==C)=_ at h
     simp[h,P,Q,It,au,ak,show aB .i64 0 1=1 from rfl,show aB .i64 1 1=2 from rfl,show aB .i64 2 1=3 from rfl,show aB .i64 3 1=4 from rfl,show aB .i64 4 1=5 from rfl,show aB .i64 5 1=6 from rfl,a_,V.cl,S]
  .have F:dQ s=none:=r λc b ⟨e,_⟩=>t (by
    have E:=b.1;simp only[Cd.right,decide_eq_true_eq] at E;simp only[abi.injEq,and_true] at e;have:=congrArg aca e.2;rw[abt] at this
    exact⟨e.1,an,an⟩)
   rw[F];simp;refine aw q1 ?_;simp;refine aw o ?_;simp;refine aw p ?_
   by_cases n:x=97
   .by_cases g:(y.toNat:Int)<48
    .simp[n,g,vq,Cd.cs]
    .have H:(53<(y.toNat:Int))=True:=eq_true (by
      apply Classical.byContradiction;intro h
      exact t ⟨n,an,an⟩)
     simp[n,g,H,vq,Cd.cs]
   .have hx:((x.toNat:Int) !=97)=true:=by have q:x.toNat≠97:=(λh=>n (abm.1 h));simp;omega
    simp[hx,vq,Cd.cs]
 .have F:dQ s=none:=r λc b ⟨e,_⟩=>d (by rw[e];rfl);rw[F]
  have iI:((A.length:Int) !=2)=true:=by simp;omega
  simp;refine aw q1 ?_;simp;refine aw o ?_;simp;refine aw p ?_;simp[iI,vq,Cd.cs]
def zne:∀(a:List Cd) (k:Nat) (b:List Cd),iM k (a++b)=iM k a++iM (k+a.length) b
 | [],k,b=>by simp[iM]
 | c::a,k,b=>by
  simp only[aao,iM,aaQ];rw[zne a (k+1) b,show k+1+a.length=k+(a.length+1) by omega];simp
def N6(r:Ru):List (List UInt8):=[[111,110],cQ pG r.aJ,cQ (oK r.aJ) r.nr,iG r.act]
def Co(r:Ru)(i:Nat):List UInt8:=aO (N6 r++iM 0 (r.conds.take i))
def zq0(r:Ru):Co r 0=[111,110,32]++cQ pG r.aJ++[32]++cQ (oK r.aJ) r.nr++[32]++iG r.act:=by simp[Co,N6,iM,aO]
def zzY(r:Ru):Co r r.conds.length=aO (qp r):=by rw[Co,aau];rfl
def zq1{r:Ru}{i:Nat}{c:Cd}(h:r.conds[i]?=some c):Co r (i+1)=Co r i++(32::xm i++32::KM c):=by
 have hi:=(aae.1 h).1
 have a:r.conds.take (i+1)=r.conds.take i++[c]:=by rw[aay,h];rfl
 have e:N6 r++iM 0 (r.conds.take (i+1))=(N6 r++iM 0 (r.conds.take i))++(xm i::kJ c):=by rw[a,zne,aaA,Nat.min_eq_left an,abc];simp[iM]
 rw[Co,e,zoi (by simp[N6]) ir,Bi _ (by simp[kJ])];simp[Co,KM]
def zzZ(k:Nat):(xm k).length<=3:=by unfold xm;split<;>simp
def zs1(r:Ru):∀i,i<=r.conds.length->(Co r i).length<=80+50*i
 | 0,_=>by
  have a:=Sp DS (v:=r.aJ);have b:=Sp (DT r.aJ) (v:=r.nr);have d:=zvB (v:=r.act);rw[zq0];simp
  omega
 | i+1,h=>by
  have e:=zs1 r i an;have c:r.conds[i]?=some r.conds[i]:=aaf an;have a:=ztu r.conds[i];have b:=zzZ i;rw[zq1 c];simp;omega
def Ru.N7(r:Ru):Prop:=(∀c∈r.conds,c.ok)/\r.aJ<4294967296/\r.nr<4294967296/\r.act<4294967296
def KN(s:List UInt8)(e d:Bool):az:=.cells [.str s,.bool e,.bool d]
def fk(H:ae)(b:Nat)(s:List UInt8)(e d:Bool):ae:=H.set b (some (KN s e d))
structure uC (H:ae) (b:Nat) (s:List UInt8) (e d:Bool):Prop where
 hb:H[b]?=some (some (KN s e d))
 shut:gV H
section
variable {H:ae} {b:Nat} {s s':List UInt8} {e e' d d':Bool}
def uC.lb(h:uC H b s e d):b<H.length:=(aae.1 h.hb).1
def uC.cM(h:uC H b s e d):H[b]?=some (some (.cells [.str s,.bool e,.bool d])):=h.hb
@[simp] theorem Cp (H:ae) (b:Nat) (s:List UInt8) (e d:Bool):(fk H b s e d).length=H.length:=by simp[fk]
theorem N8(h:gV H)(s:List UInt8)(e d:Bool):gV (fk H b s e d):=by intro n a;rw[Cp] at a;unfold fk;rw[CW,h n a];simp[KN,az.cl,a_,V.cl]
def uC.set(h:uC H b s e d)(s':List UInt8)(e' d':Bool):uC (fk H b s' e' d') b s' e' d':=⟨by rw[fk,aa1 h.lb],N8 h.shut _ _ _⟩
def zpp:fk (fk H b s e d) b s' e' d'=fk H b s' e' d':=by simp[fk]
def Sq(h:b<H.length)(R:ae):fk (H++R) b s e d=fk H b s e d++R:=by rw[fk,fk,aa9 _ _ h]
def gV.Zl(h:gV H){R:ae}(b:∀m,H.length+R.length<=m->R.map (aaq (az.cl m))=R):gV (H++R):=by intro m a;rw[aat] at a;rw[aam,h m an,b m a]
def zyg(h:gV H)(S:List UInt8)(i:Nat):ak (H.length+1) (H++[some (.dF S i)])=H++[some (.dF S i)]:=by have:=(h.app (r:=[some (.dF S i)]) (λn=>by simp[az.cl])).self;simpa using this
end
open Go Go.RowKit
variable {G:aP}
def gu(ws:List (List UInt8))(l:List UInt8):List UInt8:=ws.headD l
def aZ(ws:List (List UInt8)):List (List UInt8):=ws.tail
def eD(l:List UInt8)(ws:List (List UInt8)):List UInt8:=if ws=[] then l else aO ws
def bn(ws:List (List UInt8)):Bool:=decide (ws=[])
section
variable {H:ae} {b:Nat} {l S:List UInt8} {ws:List (List UInt8)} {e d:Bool}
def uC.Iv{s:List UInt8}{e:Bool}(h:uC H b s e d){R:ae}(a:∀n,R.map (aaq (az.cl n))=R):uC (H++R) b s e d :=
 ⟨by rw[aan h.lb];exact h.hb,h.shut.app a⟩
def Zm[dX G](h:uC H b S e d)(x:Int):SF G 464 [.ptr b 0,.int .i64 x] H (.bf []) (fk H b S e (d||x !=0)):=by
 refine j_ dX.aeV (aad rfl) ?_;have c:=h.cM;have a:=(h.set S e (d||x !=0)).shut.self;simp only[fk,KN,abn] at a |-
 cases d<;>simp[c]<;>simpa using a
def zvb[dX G](h:uC H b S false d)(P:S.length<4611686018427387904) :
  SF G 463 [.ptr b 0] H (.str (fE 32 S)) (fk H b (if(fE 32 S).length<S.length then h_ 32 S else S) (!decide ((fE 32 S).length<S.length)) d):=by
 refine j_ dX.aeU (aad rfl) ?_;obtain⟨q,g,t,k,_⟩:=DR 32 S;obtain⟨w,u⟩:=ax (fE 32 S);rw[<-u] at q g t k |-
 have C:h_ 32 S=S.drop (w.length+1):=by rw[u];rfl
 rw[C];have v:=h.cM;have c:=h.lb
 have l:∀x,(H++[x])[b]?=some (some (.cells [.str S,.bool false,.bool d])):=λx=>by rw[aan c];exact v
 have o:∀x:Option az,(H++[x])[H.length]?=some x:=λx=>by rw[aal an];simp
 have z:∀x y,(H++[x]).set b y=H.set b y++[x]:=λx y=>by rw[aa9 _ _ c]
 have D:∀x y,(H.set b y++[x])[b]?=some y:=λx y=>by rw[aan (by simpa using c),aa1 c]
 have A:=zyg h.shut S;have B:(b<H.length+1)=True:=af8;have f:=λs e r=>(N8 (b:=b) h.shut s e d).back r;simp only[Cp] at f;simp only[fk,KN] at f |-;simp[v,l];refine wq (S:=Nat) (λi=>S.length+1-i) (λi=>[(0,.ptr b 0),(17,.ptr H.length 0)]) (λi=>H++[some (.dF S i)]) (λi=>i<=w.length) 0 ?_ ?_
 .simp[au,A,B]
 intro i hi
 by_cases E:i<w.length
 .obtain⟨r,n,p,F,Q,R⟩:=Zj (m:=32) aga E q (λj _ I=>t j I) k
  have J:i<S.length:=an
  have a:((r:Int)==32)=false:=Ir (b:=32) F;simp[J,p,a,o,au];exact⟨i+n,by simp only;omega,an,by simp[au,B],by simp[A]⟩
 .have hi:i=w.length:=an
  subst hi
  by_cases a:w.length<S.length
  .have p:=Is (k a) aga;have K:((w.length:Int)<=(S.length:Int))=True:=af8
   have L:aB .i64 (w.length:Int) 1=((w.length+1:Nat):Int):=by rw[eB]<;>omega
   have M:(S.drop (w.length+1)).take (S.length-(w.length+1))=S.drop (w.length+1):=aaG ir;have N:(((w.length+1:Nat):Int)<=(S.length:Int))=True:=af8;simp[a,p,K,L,M,N,g,l,o,z,f,-aab]
  .have O:w=S:=by rw[<-g];exact aaG an
   simp[a,O,l,o,z,D,f]
def Iw[dX G](c:∀w∈ws,fX w)(h:uC H b (eD l ws) (bn ws) d)(a:(aO ws).length<4611686018427387904) :
  SF G 463 [.ptr b 0] H (.str (gu ws [])) (fk H b (eD (gu ws l) (aZ ws)) (bn (aZ ws)) (d||bn ws)):=by
 match ws,c,h,a with
 | [],_,h,_ =>
  refine j_ dX.aeU (aad rfl) ?_;have e:=h.cM;have f:=(h.set (eD l []) true true).shut.self;simp only[fk,KN,abn,bn,eD,gu,aZ,if_true,List.headD_nil,List.tail_nil,decide_true,Bool.or_true] at e f |-
  simp[e,f]
 | [w],c,h,a =>
  have:=zvb (G:=G) (S:=w) h a;rw[show fE 32 w=w from zrn (c w ir)] at this
  simpa[bn,eD,gu,aZ] using this
 | w::v::r,c,h,a =>
  have g:eD l (w::v::r)=w++32::aO (v::r):=rfl;have i:aO (w::v::r)=w++32::aO (v::r):=rfl;rw[g] at h;rw[i] at a;have:=zvb (G:=G) h a;have t:=Iq (r:=aO (v::r)) (c w ir);rw[t.1,t.2,if_pos ir,decide_eq_true ir] at this;simpa[bn,eD,gu,aZ] using this
def Zn(w:List UInt8)(ws:List (List UInt8)):(aO ws).length<=(aO (w::ws)).length:=by
 cases ws with
 | nil=>simp[aO]
 | cons v r=>rw[Bi w ir];simp;omega
def Bj(ws:List (List UInt8)):(aO (aZ ws)).length<=(aO ws).length:=by
 cases ws with
 | nil=>simp[aO,aZ]
 | cons v r=>exact Zn v r
def DU(ws:List (List UInt8)):(gu ws []).length<=(aO ws).length:=by
 match ws with
 | []=>simp[aO,gu]
 | [w]=>simp[aO,gu]
 | w::v::r=>simp[aO,gu]
def xp(ws:List (List UInt8)):List UInt8:=gu ws []++32::(gu (aZ ws) []++32::(gu (aZ (aZ ws)) []++32::gu (aZ (aZ (aZ ws))) []))
def Ck(l:List UInt8)(ws:List (List UInt8)):List UInt8:=gu (aZ (aZ (aZ ws))) (gu (aZ (aZ ws)) (gu (aZ ws) (gu ws l)))
def ztL[cW G][dm G][gD G][dX G](u:∀w∈ws,fX w)(h:uC H b (eD l ws) (bn ws) d)(S:(aO ws).length<1152921504606846976) :
  SF G 465 [.ptr b 0] H (.agg ((dQ (xp ws)).getD ⟨0,0,0,0⟩).cs) (fk H b (eD (Ck l ws) (aZ (aZ (aZ (aZ ws))))) (bn (aZ (aZ (aZ (aZ ws))))) (d||bn (aZ (aZ (aZ ws)))||(dQ (xp ws)).isNone)):=by
 refine j_ dX.aeW (aad rfl) ?_;have T:=Bj ws;have U:=Bj (aZ ws);have W:=Bj (aZ (aZ ws));have X:=DU ws;have Y:=DU (aZ ws);have k3:=DU (aZ (aZ ws));have k4:=DU (aZ (aZ (aZ ws)));have n1:∀w∈(aZ ws),fX w:=λw h=>u w (aaJ h);have v:∀w∈(aZ (aZ ws)),fX w:=λw h=>n1 w (aaJ h);have L:∀w∈(aZ (aZ (aZ ws))),fX w:=λw h=>v w (aaJ h)
 have M:(xp ws).length<4611686018427387904:=by simp only[xp,aat,aaQ];omega
 have m:=ztK (G:=G) (xp ws) M;obtain⟨Z,y⟩:∃Z:ae,Z=[some (.cells [.int .i64 0,.int .i64 0,.int .u64 0,.int .u64 0])]:=⟨_,rfl⟩
 have a:∀n,Z.map (aaq (az.cl n))=Z:=λn=>by rw[y];simp[az.cl,a_,V.cl]
 have z:=h.Iv (R:=Z) a;have q1:=Iw (G:=G) u z an;have A:=z.set (eD (gu ws l) (aZ ws)) (bn (aZ ws)) (d||bn ws);have p:=Iw (G:=G) n1 A an;have B:=A.set (eD (gu (aZ ws) (gu ws l)) (aZ (aZ ws))) (bn (aZ (aZ ws))) (d||bn ws||bn (aZ ws));have q:=Iw (G:=G) v B an;have C:=B.set (eD (gu (aZ (aZ ws)) (gu (aZ ws) (gu ws l))) (aZ (aZ (aZ ws)))) (bn (aZ (aZ (aZ ws)))) (d||bn ws||bn (aZ ws)||bn (aZ (aZ ws)))
 have f:=Iw (G:=G) L C an;obtain⟨g,i⟩:=ax ((d||bn ws||bn (aZ ws)||bn (aZ (aZ ws))||bn (aZ (aZ (aZ ws)))))
 have D:g=(d||bn (aZ (aZ (aZ ws)))):=by
  rw[i]
  match ws with
  | []=>simp[bn,aZ]
  | [_]=>simp[bn,aZ]
  | [_,_]=>simp[bn,aZ]
  | _::_::_::r=>simp[bn,aZ]
 rw[<-i] at f;have h4:=C.set (eD (Ck l ws) (aZ (aZ (aZ (aZ ws))))) (bn (aZ (aZ (aZ (aZ ws))))) g;obtain⟨c,E⟩:=ax ((dQ (xp ws)).getD ⟨0,0,0,0⟩);have N:=(h.set (eD (Ck l ws) (aZ (aZ (aZ (aZ ws))))) (bn (aZ (aZ (aZ (aZ ws))))) g).Iv (R:=Z++[some (.cells c.cs)]) (λn=>by rw[aam,a];simp[az.cl,a_,V.cl,Cd.cs]);have F:=h.lb
 have I:∀(s:List UInt8) (e d:Bool) (s':List UInt8) (e' d':Bool) (R:ae),fk (fk H b s e d++R) b s' e' d'=fk H b s' e' d'++R:=λs e d s' e' d' R=>by rw[Sq (by simpa using F),zpp]
 simp only[Sq F,I] at q1 p q f;have t:=Zm (G:=G) N (if dQ (xp ws)=none then 2 else 0)
 have O:((if dQ (xp ws)=none then(2:Int) else 0) !=0)=(dQ (xp ws)).isNone:=by cases dQ (xp ws)<;>rfl
 rw[I,O,D] at t;rw[D] at f ;have J:=λs e d' r=>(N8 (b:=b) h.shut s e d').back r;simp only[Cp] at J;subst y
 have P:∀(s:List UInt8) (e d:Bool) (r:ae) (k:Nat),(fk H b s e d++r)[H.length+k]?=r[k]?:=λs e d r k=>by rw[aal ir,Cp];congr 1;omega
 have zg:∀(s:List UInt8) (e d:Bool) (r:ae),(fk H b s e d++r)[H.length]?=r[0]?:=λs e d r=>P s e d r 0
 have K:∀(s:List UInt8) (e d:Bool) (r:ae) (k:Nat) (x:Option az),(fk H b s e d++r).set (H.length+k) x=fk H b s e d++r.set k x:=λs e d r k x=>by rw[aas _ _ ir,Cp];congr 1;congr 1;omega
 have Q:∀(s:List UInt8) (e d:Bool) (r:ae) (x:Option az),(fk H b s e d++r).set H.length x=fk H b s e d++r.set 0 x:=λs e d r x=>K s e d r 0 x;have j:∀n:Nat,n<5764607523034234880->(n<=9223372036854775807)=True:=λn h=>eq_true an;generalize dQ (xp ws)=o at *;simp only[vq,<-E,xp] at m;rw[<-E];simp only[Cd.cs,aao,aaV] at m q1 p q f t |-;generalize gu ws []=w1 at *;generalize gu (aZ ws) []=w2 at *
 generalize gu (aZ (aZ ws)) []=w3 at *;generalize gu (aZ (aZ (aZ ws))) []=w4 at *;simp;refine cN q1 ?_;simp(disch:=(first|omega|(simp;omega))) [j];refine cN p ?_;simp(disch:=(first|omega|(simp;omega))) [j];refine cN q ?_;simp(disch:=(first|omega|(simp;omega))) [j];refine cN f ?_;simp(disch:=(first|omega|(simp;omega))) [j];refine aw m ?_;simp[K];refine cN t ?_;simp[Q,J]
end
open Go Go.RowKit
variable {G:aP}
def zs2{rs:List Nat}{f:Nat}{args:List V}{r:V}{H H':ae}{base:Nat}{d:Option Nat}{os:List aF}{K:List Kt}{e:Env}{Q:Ex->Env->ae->Prop}(h:SF G f args H r H')(b:J0 e rs H H')
  (c:WO G base os K (e.put d r) H' Q):zDm G rs f args base d os K e H Q:=by
 obtain⟨g,H1,i,j,a⟩:=h;exact⟨g,H1,i,by rw[a];exact b,by rw[j,a];exact c⟩
def Sr:∀{cs a:List Cd} {k:Nat} {ws:List (List UInt8)},(∀c∈cs,c.du)->(∀c∈a,c.du)->iM k cs++ws=iM k a->∃t,a=cs++t/\ws=iM (k+cs.length) t
 | [],a,k,ws,_,_,h=>⟨a,rfl,h⟩
 | c::cs,[],k,ws,_,_,h=>by simp[iM] at h
 | c::cs,c'::a,k,ws,d,f,h=>by
  have g:∀c:Cd,(kJ c).length=4:=λ_=>rfl;simp only[iM,aao,abi.injEq,true_and,aa3] at h;have i:=List.append_inj h (by rw[g,g]);have e:=zro (d c ir) (f c' ir) i.1;subst e;obtain⟨t,rfl,j⟩:=Sr (λx b=>d x (by simp[b])) (λx b=>f x (by simp[b])) i.2;exact⟨t,rfl,by rw[j,aaQ,show k+1+cs.length=k+(cs.length+1) by omega]⟩
def zq2:∀(a b:List Cd) (k:Nat),iM k (a++b)=iM k a++iM (k+a.length) b
 | [],b,k=>rfl
 | c::a,b,k=>by simp[iM,zq2 a b (k+1),show k+1+a.length=k+(a.length+1) by omega]
def zs3{ws:List (List UInt8)}(f:∀w∈ws,fX w){c:Cd}(g:c.du):(bn (aZ (aZ (aZ ws)))=false/\dQ (xp ws)=some c)↔∃r,ws=kJ c++r:=by
 constructor
 .rintro⟨i,j⟩
  match ws,f,i,j with
  | [],_,h,_=>simp[bn,aZ] at h
  | [_],_,h,_=>simp[bn,aZ] at h
  | [_,_],_,h,_=>simp[bn,aZ] at h
  | [_,_,_],_,h,_=>simp[bn,aZ] at h
  | a::b::x::d::r,f,_,h =>
   have e:aO (kJ c)=aO [a,b,x,d]:=(N9 h).2
   have:=Su (by simp[kJ]) ir (Sl g) (λw h=>f w (by
    simp only[aaH,aa4,or_false] at h |-
    rcases h with rfl|rfl|rfl|rfl<;>simp)) e
   exact⟨r,by rw[this];rfl⟩
 .rintro⟨r,rfl⟩;exact⟨by simp[bn,aZ,kJ],Zk g⟩
def Zo:∀l:List (List UInt8),l.length<=(aO l).length+1
 | []=>by simp
 | [w]=>by simp
 | w::v::r=>by
  have:=Zo (v::r);rw[Bi w ir];simp at this |-;omega
def zGa{f b:Nat}{body:ba}{a:List jj}{args:List V}{H:ae}{R:V->ae->Prop}(d:G f=some ⟨b,body,a⟩)(e:args.length<=b)
  (h:W G body [] (gP (pU 0 args)) H (QX a λg H1=>R (g.cl H.length) (ak H.length H1))):∃r H',SF G f args H r H'/\R r H':=by
 obtain⟨x,l,H1,c,i,vs,j,k⟩:=h;rw[<-LW] at c;exact⟨_,_,⟨_,_,.fn d e c i j,rfl,rfl⟩,k⟩
def zCp(ws:List (List UInt8)):aZ (aZ (aZ (aZ ws)))=ws.drop 4:=by
 match ws with
 | []=>rfl
 | [_]=>rfl
 | [_,_]=>rfl
 | [_,_,_]=>rfl
 | _::_::_::_::r=>rfl
section
variable {H:ae} {b:Nat} {l:List UInt8} {ws:List (List UInt8)} {d:Bool}
def DW(o:Option Nat):((if o=none then(2:Int) else 0) !=0)=o.isNone:=by cases o<;>rfl
def zCq[cW G][bS G][dm G][c_ G][gD G][dX G](Y:∀w∈ws,fX w)
  (h:uC H b (eD l ws) (bn ws) false) (hl:(aO ws).length<1048576) :
  ∃s e hg x,SF G 466 [.ptr b 0] H (.agg x.cs) (fk H b s e hg)/\(hg=false->jb x=true/\x.N7/\qp x=[111,110]::ws)/\(hg=true->∀y,jb y=true->y.N7->qp y≠[111,110]::ws):=by
 obtain⟨M,hM⟩:=ax (gu ws []);obtain⟨C,hC⟩:=ax (gu (aZ ws) []);obtain⟨A,hA⟩:=ax (gu (aZ (aZ ws)) []);obtain⟨o,Ix⟩:=ax (aZ (aZ (aZ ws)));obtain⟨a,ha⟩:=ax ((oL pG M).getD 0);obtain⟨n,N⟩:=ax ((oL (oK a) C).getD 0);obtain⟨v,hv⟩:=ax ((eE A).getD 0);have t1:=Bj ws;have t2:=Bj (aZ ws);have t3:=Bj (aZ (aZ ws));have k1:=DU ws;have k2:=DU (aZ ws)
 have k3:=DU (aZ (aZ ws));have n1:∀w∈aZ ws,fX w:=λw h=>Y w (aaJ h);have n2:∀w∈aZ (aZ ws),fX w:=λw h=>n1 w (aaJ h);have n3:∀w∈o,fX w:=λw h=>n2 w (aaJ (by rw[Ix] at h;exact h));obtain⟨d1,Zp⟩:=ax ((bn ws||(oL pG M).isNone));obtain⟨d2,KO⟩:=ax ((d1||bn (aZ ws)||(oL (oK a) C).isNone));obtain⟨B,Zq⟩:=ax ((d2||bn (aZ (aZ ws))||(eE A).isNone));have pM:=zrp (G:=G) M (by rw[hM];omega)
 have pC:=zvC (G:=G) a C (by rw[hC];omega);have pA:=zl1 (G:=G) A (by rw[hA];omega);simp only[jS] at pM pC pA;rw[<-ha] at pM;rw[<-N] at pC;rw[<-hv] at pA;have lb:=h.lb;have O:=h.shut
 have ra:∀(s:List UInt8) (e d:Bool) (s':List UInt8) (e' d':Bool) (R:ae),fk (fk H b s e d++R) b s' e' d'=fk H b s' e' d'++R:=λs e d s' e' d' R=>by rw[Sq (by simpa using lb),zpp]
 have N_:∀(R:ae),(∀n,H.length+R.length<=n->R.map (aaq (az.cl n))=R)->∀(s:List UInt8) (e d:Bool),uC (fk H b s e d++R) b s e d:=λR F s e d =>
  ⟨by rw[aan (by simpa using lb)];exact(h.set _ _ _).hb,(N8 O _ _ _).Zl (R:=R) (by rw[Cp];exact F)⟩
 have E:∀(R:ae),(∀n,H.length+R.length<=n->R.map (aaq (az.cl n))=R)->∀(ws:List (List UInt8)),(∀w∈ws,fX w)->(aO ws).length<1048576->∀l d,
   SF G 463 [.ptr b 0] (fk H b (eD l ws) (bn ws) d++R) (.str (gu ws [])) (fk H b (eD (gu ws l) (aZ ws)) (bn (aZ ws)) (d||bn ws)++R):=by
  intro R F ws Y hq l d;have:=Iw (G:=G) Y (N_ R F (eD l ws) (bn ws) d) an;rwa[ra] at this
 have Iy:∀(R:ae),(∀n,H.length+R.length<=n->R.map (aaq (az.cl n))=R)->∀(s:List UInt8) (e d:Bool) (x:Int),SF G 464 [.ptr b 0,.int .i64 x] (fk H b s e d++R) (.bf []) (fk H b s e (d||x !=0)++R):=by intro R F s e d x;have:=Zm (G:=G) (N_ R F s e d) x;rwa[ra] at this
 have dT:fk H b (eD l ws) (bn ws) false=H:=abT λi=>by
  unfold fk;rw[abx];split
  .rename_i u;first|(rw[if_pos lb,<-u,h.hb];done)|(rw[<-u,h.hb];done)
  .rfl
 have gk:∀(s:List UInt8) (e d:Bool) (R:ae) (k:Nat),(fk H b s e d++R)[H.length+k]?=R[k]?:=λs e d R k=>by rw[aal ir,Cp];congr 1;omega
 have zg:∀(s:List UInt8) (e d:Bool) (R:ae),(fk H b s e d++R)[H.length]?=R[0]?:=λs e d R=>gk s e d R 0
 have sk:∀(s:List UInt8) (e d:Bool) (R:ae) (k:Nat) (x:Option az),(fk H b s e d++R).set (H.length+k) x=fk H b s e d++R.set k x:=λs e d R k x=>by rw[aas _ _ ir,Cp];congr 1;congr 1;omega
 have Bl:∀(s:List UInt8) (e d:Bool) (R:ae) (x:Option az),(fk H b s e d++R).set H.length x=fk H b s e d++R.set 0 x:=λs e d R x=>sk s e d R 0 x
 have gb:∀(s:List UInt8) (e d:Bool) (R:ae),(fk H b s e d++R)[b]?=some (some (.cells [.str s,.bool e,.bool d])):=λs e d R=>by rw[aan (by simpa using lb)];exact(h.set s e d).hb
 have sb:∀(s:List UInt8) (e d:Bool) (s':List UInt8) (e' d':Bool) (R:ae),(fk H b s e d++R).set b (some (.cells [.str s',.bool e',.bool d']))=fk H b s' e' d'++R:=λs e d s' e' d' R=>ra s e d s' e' d' R
 have bk:∀(s:List UInt8) (e d:Bool) (R:ae),ak H.length (fk H b s e d++R)=fk H b s e d:=λs e d R=>by have:=(N8 (b:=b) O s e d).back R;rwa[Cp] at this
 have tr:∀(s:List UInt8) (e d:Bool) (R:ae) (n:Nat),n=H.length+R.length->(∀n,H.length+R.length<=n->R.map (aaq (az.cl n))=R)->ak n (fk H b s e d++R)=fk H b s e d++R:=λs e d R n N F=>by
  subst N;have:=(N_ R F s e d).shut.self;simpa using this
 obtain⟨C0,hj⟩:∃C0:Option az,C0=some (.cells [.int .u32 0,.int .u32 0,.vs [] .full,.int .u32 0]):=⟨_,rfl⟩
 have R0:∀(a n v:Int) (m:Nat),([C0,some (.cells [.int .u32 a,.int .u32 n,.vs [] .full,.int .u32 v])]:ae).map (aaq (az.cl m))=[C0,some (.cells [.int .u32 a,.int .u32 n,.vs [] .full,.int .u32 v])]:=λa n v m=>by
  subst hj;simp[az.cl,a_,V.cl,Tk.cl]
 have q1:=E _ (λm _=>R0 0 0 0 m) ws Y hl l false;rw[dT,<-hM] at q1;have m1:=Iy _ (λm _=>R0 a 0 0 m) (eD (gu ws l) (aZ ws)) (bn (aZ ws)) (false||bn ws) (if oL pG M=none then 2 else 0);rw[DW,abh,<-Zp] at m1;rw[abh] at q1;have q2:=E _ (λm _=>R0 a 0 0 m) (aZ ws) n1 an (gu ws l) d1;rw[<-hC] at q2;have m2:=Iy _ (λm _=>R0 a n 0 m) (eD (gu (aZ ws) (gu ws l)) (aZ (aZ ws))) (bn (aZ (aZ ws))) (d1||bn (aZ ws)) (if oL (oK a) C=none then 2 else 0)
 rw[DW,<-KO] at m2;have q3:=E _ (λm _=>R0 a n 0 m) (aZ (aZ ws)) n2 an (gu (aZ ws) (gu ws l)) d2;rw[<-hA,<-Ix] at q3;obtain⟨l3,C4⟩:=ax (gu (aZ (aZ ws)) (gu (aZ ws) (gu ws l)));rw[<-C4] at q3;have m3:=Iy _ (λm _=>R0 a n v m) (eD l3 o) (bn o) (d2||bn (aZ (aZ ws))) (if eE A=none then 2 else 0);rw[DW,<-Zq] at m3
 have hh:∀cs:List Cd,(∀c∈cs,c.du)->o=iM 0 cs->B=false->cs.length<=4->jb ⟨a,n,cs,v⟩=true/\(⟨a,n,cs,v⟩:Ru).N7/\qp ⟨a,n,cs,v⟩=[111,110]::ws:=by
  intro cs dD hu hd Zr;rw[Zq,KO,Zp] at hd;simp only[abo] at hd;obtain⟨⟨⟨⟨⟨g1,P⟩,Q⟩,g4⟩,g5⟩,g6⟩:=hd;obtain⟨a',nG⟩:=aap.1 (by rw[<-abe,P];rfl);obtain⟨n',uU⟩:=aap.1 (by rw[<-abe,g4];rfl);obtain⟨v',xK⟩:=aap.1 (by rw[<-abe,g6];rfl);rw[nG] at ha;rw[uU] at N;rw[xK] at hv;simp only[aaC] at ha N hv;subst ha;subst N;subst hv;have e1:=Sv nG;have e2:=Sv uU;have e3:=Bm xK;have T:=JX e3.1;refine⟨?_,⟨λc I=>(dD c I).2,e1.1,e2.1,T⟩,?_⟩
  .simp only[jb,aaL,decide_eq_true_eq,aa_];exact⟨⟨λc I=>(dD c I).1,e3.1⟩,Zr⟩
  .match ws,g1,Q,g5 with
   | [],g,_,_=>simp[bn] at g
   | [_],_,g,_=>simp[bn,aZ] at g
   | [_,_],_,_,g=>simp[bn,aZ] at g
   | x::y::z::r,_,_,_ =>
    simp only[gu,aZ,abY,ab1] at hM hC hA Ix;simp only[qp,aao,aaV,e1.2,e2.2,e3.2,<-hu];rw[hM,hC,hA,Ix]
 have Oa:∀y:Ru,jb y=true->y.N7->qp y=[111,110]::ws->B=false/\o=iM 0 y.conds/\(∀c∈y.conds,c.du)/\y.conds.length<=4:=by
  intro y hm ho u;simp only[jb,aaL,decide_eq_true_eq,aa_] at hm;obtain⟨⟨y1,y2⟩,y3⟩:=hm;obtain⟨o1,o2,o3,o4⟩:=ho;simp only[qp,aao,aaV,abi.injEq,true_and] at u;subst u;simp only[gu,aZ,abY,ab1] at hM hC hA Ix;have e1:=KP DS o2;rw[<-hM] at e1;rw[e1] at ha;simp only[aaC] at ha;have e2:=KP (DT y.aJ) o3;rw[<-hC,<-ha] at e2;have e3:=FW y2;rw[<-hA] at e3;refine⟨?_,Ix,λc I=>⟨y1 c I,o1 c I⟩,y3⟩;rw[Zq,KO,Zp,e1,e2,e3]
  simp[bn,aZ]
 suffices hs:∃s e D cs,SF G 466 [.ptr b 0] H (.agg (⟨a,n,cs,v⟩:Ru).cs) (fk H b s e (D||decide (4<cs.length)))/\(D=false->B=false/\(∀c∈cs,c.du)/\o=iM 0 cs)/\(D=true->B=true\/∀p,(∀c∈p,c.du)->o≠iM 0 p) by
  obtain⟨s,e,D,cs,h1,h2,h3⟩:=hs;refine⟨s,e,_,_,h1,?_,?_⟩
  .intro T;simp only[abo,decide_eq_false_iff_not] at T;obtain⟨g1,P,Q⟩:=h2 T.1;exact hh cs P Q g1 an
  .intro T y hm ho u;obtain⟨f1,f2,f3,f4⟩:=Oa y hm ho u
   cases Fx:D with
   | true =>
    rcases h3 Fx with h|h
    .rw[f1] at h;cases h
    .exact h _ f3 f2
   | false =>
    obtain⟨g1,P,Q⟩:=h2 Fx;rw[Fx] at T;simp only[abh,decide_eq_true_eq] at T;obtain⟨t,ht,qy⟩:=Sr (ws:=[]) (k:=0) f3 P (by rw[aaW,<-f2,Q])
    have:t=[]:=by
     cases t with
     | nil=>rfl
     | cons c t=>simp[iM] at qy
    subst this;rw[ht,aaW] at T;omega
 obtain⟨R,F⟩:∃R:V->ae->Prop,∀r H',R r H'↔∃s e D cs,r=.agg (⟨a,n,cs,v⟩:Ru).cs/\H'=fk H b s e (D||decide (4<cs.length))/\(D=false->B=false/\(∀c∈cs,c.du)/\o=iM 0 cs)/\(D=true->B=true\/∀p,(∀c∈p,c.du)->o≠iM 0 p):=⟨_,λ_ _=>Iff.rfl⟩
 suffices hs:∃r H',SF G 466 [.ptr b 0] H r H'/\R r H' by
  obtain⟨r,H',h1,h2⟩:=hs;obtain⟨s,e,D,cs,rfl,rfl,h3⟩:=(F _ _).1 h2;exact⟨s,e,D,cs,h1,h3⟩
 refine zGa dX.aeX (aad rfl) ?_;subst hj;simp;refine cN q1 ?_;simp;refine aw pM ?_;simp[sk];refine cN m1 ?_;simp;refine zs2 q2 ?_ ?_
 .intro k hk id bH;simp at hk;subst hk;simp at bH;subst bH;rw[gk,gk]
 simp;refine aw pC ?_;simp[sk];refine cN m2 ?_;simp;refine cN q3 ?_;simp;refine aw pA ?_;simp[sk];refine cN m3 ?_;simp[sk];obtain⟨Z,K⟩:∃Z:List Cd->ae,∀cs,Z cs=[some (.cells [.int .u32 0,.int .u32 0,.vs [] .full,.int .u32 0]),some (.cells [.int .u32 a,.int .u32 n,.vs (CL cs) (.own (H.length+2)),.int .u32 v]),some (.zone cs.length)]:=⟨_,λ_=>rfl⟩
 have Zs:∀i,(Z i).length=3:=λi=>by rw[K];rfl
 have Sw:∀i n,H.length+(Z i).length<=n->(Z i).map (aaq (az.cl n))=Z i:=λi n N=>by
  rw[Zs] at N;rw[K];simp[az.cl,a_,V.cl,Tk.cl,show H.length+2<n by omega]
 have tz:∀s e d i,ak (H.length+3) (fk H b s e d++Z i)=fk H b s e d++Z i:=λs e d i=>tr s e d (Z i) _ (by rw[Zs]) (Sw i);have Sx:(b<H.length+3)=True:=af8;have wl:∀l:List (List UInt8),l.length<=(aO l).length+1:=Zo;have hD:=wl o
 have hy:(aO o).length<1048576:=by rw[Ix];omega
 refine wq (S:=List UInt8×List (List UInt8)×Bool×List Cd) (λq=>if q.2.2.1 then 0 else q.2.1.length) (λq=>[(0,.ptr b 0),(2,.ptr H.length 0),(3,.ptr (H.length+1) 0),(5,.str (xm q.2.2.2.length))])
  (λq=>fk H b (eD q.1 q.2.1) (bn q.2.1) q.2.2.1++Z q.2.2.2)
  (λq=>(∀w∈q.2.1,fX w)/\(aO q.2.1).length<1048576/\q.2.2.2.length+q.2.1.length<=1048577/\(q.2.2.1=false->B=false/\(∀c∈q.2.2.2,c.du)/\o=iM 0 q.2.2.2++q.2.1)/\(q.2.2.1=true->B=true\/∀p,(∀c∈p,c.du)->o≠iM 0 p)) (l3,o,B,[]) ?_ ?_
 .have t0:=tz (eD l3 o) (bn o) B [];rw[K] at t0;simp only[show CL []=[] from rfl,abB] at t0;refine⟨⟨n3,hy,by simp;omega,λh=>⟨h,ir,rfl⟩,λh=>.inl h⟩,?_,?_⟩
  .simp[au,xm,Sx]
  .simp[t0,K,Sx,show CL []=[] from rfl]
 rintro⟨l,ws,d,cs⟩ ⟨p1,p2,p3,p4,p5⟩;simp only at p1 p2 p3 p4 p5 |-
 have j:(d||bn ws)=true->∃s e D p,V.agg (⟨a,n,cs,v⟩:Ru).cs=.agg (⟨a,n,p,v⟩:Ru).cs/\fk H b (eD l ws) (bn ws) (d||decide (4<cs.length))=fk H b s e (D||decide (4<p.length))/\(D=false->B=false/\(∀c∈p,c.du)/\o=iM 0 p)/\(D=true->B=true\/∀p,(∀c∈p,c.du)->o≠iM 0 p):=by
  intro u;refine⟨_,_,d,cs,rfl,rfl,λhd=>?_,p5⟩;rw[hd,abh] at u
  have:ws=[]:=by simpa[bn] using u
  have:=p4 hd;subst ws;rw[aaW] at this;exact this
 have hF:(H.length+2<H.length)=False:=af9
 cases hd:d with
 | true =>
  rw[hd] at j;have j:=(F _ _).2 (j rfl);simp only[Bool.true_or] at j;simp only[K]
  cases u:bn ws<;>rw[u] at j<;>simp[Bl,gb,sb,bk,hF,Tk.cl]<;>simpa[Ru.cs] using j
 | false =>
  subst hd
  cases u:bn ws with
  | true =>
   have j:=(F _ _).2 (j (by rw[u];rfl));rw[u] at j
   by_cases h4:4<cs.length
   .have Jo:(4<(cs.length:Int))=True:=af8;simp only[K];simp[Bl,gb,sb,bk,hF,Tk.cl,Jo];simpa[Ru.cs,h4] using j
   .have Jo:(4<(cs.length:Int))=False:=af9;simp only[K];simp[Bl,gb,sb,bk,hF,Tk.cl,Jo]
    simpa[Ru.cs,h4] using j
  | false =>
   have aC:ws≠[]:=by intro h;rw[h] at u;simp[bn] at u
   obtain⟨w,Y⟩:=ax (gu ws []);obtain⟨U,hU⟩:=ax (aZ ws)
   have vr:ws=w::U:=by
    cases ws with
    | nil=>exact absurd rfl aC
    | cons x y=>rw[Y,hU];rfl
   have nU:∀w∈U,fX w:=λx h=>p1 x (by rw[vr];simp[h])
   have lU:(aO U).length<=(aO ws).length:=by rw[hU];exact Bj ws
   have q:=E (Z cs) (Sw cs) ws p1 p2 l false;rw[<-Y,<-hU,u,abh] at q;obtain⟨l1,lP⟩:=ax (gu ws l);rw[<-lP] at q;obtain⟨J,hJ⟩:=ax (xm cs.length);obtain⟨d',AG⟩:=ax (!(w==J))
   have EG:=N_ (Z cs++[none]) (λm hm=>by
    rw[aat] at hm;rw[aam,Sw cs m an]
    rfl) (eD l1 U) (bn U) d'
   have qc:=ztL (G:=G) nU EG an;obtain⟨c,I⟩:=ax ((dQ (xp U)).getD ⟨0,0,0,0⟩);obtain⟨l2,iI⟩:=ax (Ck l1 U);obtain⟨X,hX⟩:=ax (aZ (aZ (aZ (aZ U))));obtain⟨L,Iz⟩:=ax ((d'||bn (aZ (aZ (aZ U)))||(dQ (xp U)).isNone));rw[ra,<-I,<-iI,<-hX,<-Iz] at qc
   have Zt:X=U.drop 4:=by rw[hX,zCp]
   have HX:xm (cs.length+1)=[97,110,100]:=by simp[xm]
   have iQ:((cs.length+1)*32<=140737488355328)=True:=eq_true (by rw[vr] at p3;simp at p3;omega);have FX:(∀f∈CL cs,f.length=4)=True:=eq_true (by intro f hf;simp only[CL,aag] at hf;obtain⟨y,_,rfl⟩:=hf;rfl)
   have dV:CL cs++[c.cs]=CL (cs++[c]):=by simp[CL]
   have Zu:ak (H.length+3) (fk H b (eD l2 X) (bn X) L++(Z (cs++[c])++[none]))=fk H b (eD l2 X) (bn X) L++Z (cs++[c]):=by have:=(N_ (Z (cs++[c])) (Sw _) (eD l2 X) (bn X) L).shut.back [none];rw[aat,Cp,Zs] at this;rw[<-aa3];exact this
   have lX:(aO X).length<=(aO U).length:=by rw[hX];have:=Bj U;have:=Bj (aZ U);have:=Bj (aZ (aZ U));have:=Bj (aZ (aZ (aZ U)));omega
   have x6:(if L=true then 0 else X.length)<(if false=true then 0 else ws.length)/\(∀w∈X,fX w)/\(aO X).length<1048576/\(cs++[c]).length+X.length<=1048577/\(L=false->B=false/\(∀x∈cs++[c],x.du)/\o=iM 0 (cs++[c])++X)/\(L=true->B=true\/∀p,(∀c∈p,c.du)->o≠iM 0 p):=by
    obtain⟨g1,P,Q⟩:=p4 rfl
    have eS:X.length<=U.length:=by rw[Zt];simp
    have Cl:ws.length=U.length+1:=by rw[vr];rfl
    refine⟨?_,λx W=>nU x (List.mem_of_mem_drop (by rw[Zt] at W;exact W)),an,by simp;omega,λh=>?_,λh=>.inr λp kS oP=>?_⟩
    .split<;>simp<;>omega
    .rw[Iz,AG] at h;simp only[abo,Bool.not_eq_false',beq_iff_eq] at h;obtain⟨⟨h1,h2⟩,h3⟩:=h;obtain⟨c',ik⟩:=aap.1 (by rw[<-abe,h3];rfl);rw[ik] at I;simp only[aaC] at I;subst I;have Sy:=(N9 ik).1;obtain⟨r,hr⟩:=(zs3 nU Sy).1 ⟨h2,ik⟩
     have hz:X=r:=by rw[Zt,hr];rfl
     refine⟨g1,λx W=>?_,?_⟩
     .rcases aai.1 W with W|W
      .exact P x W
      .rw[aar.1 W];exact Sy
     .rw[Q,vr,hr,zq2,h1,hJ,hz];simp[iM]
    .obtain⟨t,ht,qy⟩:=Sr (k:=0) P kS (by rw[<-Q,oP])
     cases t with
     | nil=>exact aC qy
     | cons c' t =>
      rw[vr,abc] at qy;simp only[iM,aao,abi.injEq] at qy;have Sy:=kS c' (by rw[ht];simp);have:=(zs3 nU Sy).2 ⟨_,qy.2⟩;rw[Iz,AG,qy.1,this.1,this.2,hJ] at h;simp at h
   rw[K] at Zu;have hB:=K;simp only[K,aao,aaV] at q qc Zu |-;simp only[Cd.cs] at qc dV;simp[gb,u];refine cN q ?_;rw[<-hJ];cases hp:(w==J)
   all_goals
    rw[hp] at AG;simp only[Bool.not_true,Bool.not_false] at AG;subst AG;simp[gb,sb,hp];refine zs2 qc ?_ ?_
    .intro k hk id bH;simp at hk;subst hk;simp at bH;subst bH;rw[gk,gk]
    simp(disch:=omega)[gk,sk,iQ,dV,FX];refine⟨(l2,X,L,cs++[c]),?_,x6.2,?_,?_⟩
    .simpa using x6.1
    .simp[au,HX,Sx]
    .simp only[hB];simpa[Sx] using Zu
end
open Go Go.RowKit
def gG(m:UInt8):List UInt8->List (List UInt8)
 | []=>[[]]
 | b::s=>if b=m then []::gG m s else match gG m s with
  | []=>[[b]]
  | w::r=>(b::w)::r
def Cq(m:UInt8):∀s,gG m s≠[]
 | []=>by simp[gG]
 | b::s=>by
  unfold gG;split
  .simp
  .split<;>simp
def Zv(m:UInt8):∀s,gG m s=fE m s::(if(fE m s).length<s.length then gG m (h_ m s) else [])
 | []=>by simp[gG,fE]
 | b::s=>by
  by_cases h:b=m
  .subst h
   have:fE b (b::s)=[]:=by simp[fE]
   simp[gG,this,h_]
  .have a:fE m (b::s)=b::fE m s:=by unfold fE;rw[abw (by simpa using h)]
   have hd:h_ m (b::s)=h_ m s:=by unfold h_;rw[a];rfl
   have c:=Zv m s;rw[show gG m (b::s)=(if b=m then []::gG m s else match gG m s with|[]=>[[b]]|w::r=>(b::w)::r) from rfl,if_neg h,c,a,hd];simp only[aaQ,Nat.add_lt_add_iff_right]
def Sz:∀s,aO (gG 32 s)=s
 | []=>rfl
 | b::s=>by
  have a:=Sz s;have c:=Cq 32 s;unfold gG;split
  .rename_i h;rw[Bi [] c,a,h];rfl
  .match d:gG 32 s,c with
   | w::r,_ =>
    rw[d] at a;simp only
    cases r with
    | nil=>simp only[aO] at a |-;rw[a]
    | cons v r=>rw[Bi _ ir] at a |-;rw[<-a];rfl
def zz0(m:UInt8):∀s,∀w∈gG m s,∀b∈w,b≠m
 | [],w,a=>by simp[gG] at a;subst a;simp
 | b::s,w,a=>by
  have c:=zz0 m s;unfold gG at a;split at a
  .rcases aaH.1 a with rfl|a
   .simp
   .exact c w a
  .rename_i e;split at a
   .simp at a;subst a;simpa using e
   .rename_i v r f;rw[f] at c
    rcases aaH.1 a with rfl|a
    .intro x d
     rcases aaH.1 d with rfl|d
     .exact e
     .exact c v ir x d
    .exact c w (by simp[a])
def SA(s:List UInt8):∀w∈gG 32 s,fX w:=zz0 32 s
def zCr{l:List (List UInt8)}(a:l≠[])(b:∀w∈l,fX w):gG 32 (aO l)=l :=
 Su (Cq 32 _) a (SA _) b (Sz _)
def Ru.cu(x:Ru):Prop:=jb x=true/\x.N7
def B2{x:Ru}(h:x.cu):(∀c∈x.conds,c.du)/\x.aJ<4294967296/\x.nr<4294967296/\dU x.act=true/\x.conds.length<=4:=by obtain⟨h,b,d,e,f⟩:=h;simp only[jb,aaL,decide_eq_true_eq,aa_] at h;exact⟨λc a=>⟨h.1.1 c a,b c a⟩,d,e,h.1.2,h.2⟩
def zyh{x:Ru}(h:x.cu):∀w∈qp x,fX w:=by obtain⟨a,b,d,e,_⟩:=B2 h;exact λw f=>Zw (zyx (λc g=>a c g) b d (JX e) w f)
def zCs(x:Ru):qp x≠[]:=by simp[qp]
def zz1{x y:Ru}(g:x.cu)(i:y.cu)(h:qp x=qp y):x=y:=by
 obtain⟨x1,x2,x3,x4,_⟩:=B2 g;obtain⟨j,q,r,l,_⟩:=B2 i;simp only[qp,aao,aaV,abi.injEq,true_and] at h;obtain⟨m,d,n,o⟩:=h;have a:=Zx DS an an m;rw[a] at d;have e:=Zx (DT _) an an d;have f:=Zy x4 l n;obtain⟨t,b,p⟩:=Sr (ws:=[]) (k:=0) x1 j (by rw[aaW];exact o)
 have:t=[]:=by cases t with
  | nil=>rfl
  | cons c t=>simp[iM] at p
 rw[this,aaW] at b;cases x;cases y;simp only at a e f b;subst a;subst e;subst f;subst b;rfl
noncomputable def vt(w:List UInt8):Option Ru:=yj λx=>x.cu/\qp x=gG 32 w
noncomputable def o6(w:List UInt8):Option Nat:=yj λv=>dU v=true/\IA v=gG 32 w
def zvd{w:List UInt8}{x:Ru}(h:x.cu)(e:qp x=gG 32 w):vt w=some x:=KQ ⟨h,e⟩ λy a=>zz1 a.1 h (a.2.trans e.symm)
def SB{w:List UInt8}{x:Ru}(h:vt w=some x):x.cu/\qp x=gG 32 w:=by unfold vt at h;have:=FY h;exact this
def zxd{w:List UInt8}{v:Nat}(h:dU v=true)(e:IA v=gG 32 w):o6 w=some v:=KQ ⟨h,e⟩ λy a=>Zy a.1 h (by
 have:=a.2.trans e.symm;simp only[IA,abi.injEq,and_true,true_and] at this
 exact this)
def SC{w:List UInt8}{v:Nat}(h:o6 w=some v):dU v=true/\IA v=gG 32 w:=by unfold o6 at h;have:=FY h;exact this
abbrev IB:=Po×Nat×Nat
def l9:Po:=⟨[],0⟩
noncomputable def uD:Nat->List Ru->Option Nat->List (List UInt8)->IB
 | at_,rs,a,[]=>(l9,at_,0)
 | at_,rs,a,w::r =>
  if r=[] then(if w=[] then(match a with|none=>(l9,at_,5)|some v=>(⟨rs,v⟩,0,0)) else(l9,at_,2))
  else match a with
   | some _=>(l9,at_,2)
   | none=>match vt w with
    | some x=>if 64<=rs.length then(l9,at_,3) else uD (at_+w.length+1) (rs++[x]) none r
    | none=>match o6 w with
     | some v=>uD (at_+w.length+1) rs (some v) r
     | none=>(l9,at_,2)
noncomputable def fU(s:List UInt8):IB:=uD 0 [] none (gG 10 s)
def zq3{w:List UInt8}{x:Ru}(h:vt w=some x):gu (gG 32 w) []=[111,110]:=by rw[<-(SB h).2];rfl
def zs4{w:List UInt8}{v:Nat}(h:o6 w=some v):gu (gG 32 w) []=[100,101,102,97,117,108,116]:=by rw[<-(SC h).2];rfl
variable {G:aP}
def zEG(k:IntKind)(l:List Nat):(ah k l=[])=(l=[]):=by simp[ah]
def zz2[fw G](n:Nat)(H:ae):bD G (.F 424 [.int .u32 n] H (.int .u32 n) H):=by refine eV fw.aeE (aad rfl) ?_;simp
def zyi(l:List Nat)(x:Nat):qq (l++[x])=xq x (qq l):=by simp[qq,List.foldl_append]
def Ob(l:List Nat):(qq l).length=l.length:=(Oc l).length_eq
def rI(x:Nat)(l:List Nat):Nat:=(l.takeWhile λy=>decide (y<=x)).length
def zq4(x:Nat)(l:List Nat):l.take (rI x l)=l.takeWhile (λy=>decide (y<=x)):=by
 have h:=aaR (p:=λy=>decide (y<=x)) (l:=l);unfold rI
 conv=>lhs;arg 2;rw[<-h]
 exact List.take_left' rfl
def zyj(x:Nat)(l:List Nat):l.drop (rI x l)=l.dropWhile (λy=>decide (y<=x)):=by
 have h:=aaR (p:=λy=>decide (y<=x)) (l:=l);unfold rI
 conv=>lhs;arg 2;rw[<-h]
 exact List.drop_left' rfl
def zxe(x:Nat)(l:List Nat):xq x l=l.take (rI x l)++x::l.drop (rI x l):=by rw[zq4,zyj];rfl
def zCt(x:Nat)(l:List Nat):rI x l<=l.length:=by have:=congrArg acb (aaR (p:=λy=>decide (y<=x)) (l:=l));rw[aat] at this;unfold rI;omega
def zCu{x:Nat}{l:List Nat}{j y:Nat}(h:j<rI x l)(a:l[j]?=some y):y<=x:=by refine zxl x (l:=l) y ?_;rw[<-zq4];exact aah (i:=j) (by rw[List.getElem?_take,if_pos h];exact a)
def zs5{x:Nat}:∀{l:List Nat} {y:Nat},l[rI x l]?=some y->¬y<=x
 | [],y,h=>by simp at h
 | b::l,y,h=>by
  by_cases a:b<=x
  .have e:rI x (b::l)=rI x l+1:=by simp[rI,a]
   rw[e,List.getElem?_cons_succ] at h;exact zs5 h
  .have e:rI x (b::l)=0:=by simp[rI,a]
   rw[e] at h;simp at h;omega
def zyk[fw G]{H:ae}(a:gV H)(l:List Nat)(tk:Tk)(T:∀n,H.length<=n->tk.cl n=tk)(U:l≠[])(hl:l.length<=1000000) :
  SF G 423 [.vs (ah .u32 l) tk,.fn 424 []] H (.vs (ah .u32 (qq l)) .no) H:=by
 refine j_ fw.aeD (aad rfl) ?_;have ht:=NM a;have J:=a.back;have d:=T H.length (aaF _);obtain⟨S,e⟩:∃S:Nat->List Nat,∀k,S k=qq (l.take k):=⟨_,λ_=>rfl⟩
 obtain⟨b,i⟩:∃b:Nat->Tk,∀k,b k=if k=0 then .full else .no:=⟨_,λ_=>rfl⟩
 have W:S 0=[]:=by rw[e];rfl
 have X:S l.length=qq l:=by rw[e,aau]
 have Y:∀k,k<=l.length->(S k).length=k:=λk K=>by rw[e,Ob,aaA];omega
 simp;refine aN l.length (λk=>[(1,.fn 424 []),(5,.vs (ah .u32 (S k)) (b k)),(9,.vs (ah .u32 l) tk),(10,.int .i64 l.length),(11,.int .i64 k)]) (λ_=>H) (λ_=>True) ?_ ?_
 .simp[au,W,i,d,a.self]
 intro k K _;have mz:0<l.length:=aba.2 U
 have m:∀(r:ae) (k:Nat),(H++r)[H.length+k]?=r[k]?:=λr k=>by rw[aal an];congr 1;omega
 have Z:∀(r:ae),(H++r)[H.length]?=r[0]?:=λr=>m r 0;have M:(H.length+1<H.length)=False:=af9
 by_cases f:k<l.length
 .obtain⟨x,hx⟩:=ax (l[k])
  have N:l[k]?=some x:=by rw[aaf f,hx]
  have o:(ah .u32 l)[k]?=some [.int .u32 (x:Int)]:=by simp[N]
  have xS:(ah .u32 l)[k]'(by simpa using f)=[.int .u32 (x:Int)]:=by rw[aaf (by simpa using f)] at o;exact aa2.inj o
  have c:S (k+1)=xq x (S k):=by rw[e,e,aay,N];exact zyi _ _
  have p:=Y k K
  have s:∀k n,(b k).cl n=b k:=λk n=>by rw[i];split<;>rfl
  have O:b (k+1)=.no:=by rw[i,if_neg an]
  obtain⟨L,hL⟩:=ax (S k);obtain⟨q,P⟩:=ax (b k)
  have g:∀n,q.cl n=q:=λn=>by rw[P];exact s k n
  rw[<-hL] at c p |-;rw[<-P];have ha:=zCt x L;simp(disch:=omega)[bC,o];refine aN (rI x L) (λj=>[(1,.fn 424 []),(5,.vs (ah .u32 L) q),(7,.int .u32 x),(8,.int .i64 j),(9,.vs (ah .u32 l) tk),(10,.int .i64 l.length),(11,.int .i64 k)]) (λ_=>H) (λ_=>True) ?_ ?_
  .simp[au,d,a.self,g]
  intro j hj _
  by_cases t:j<L.length
  .obtain⟨y,hy⟩:=ax (L[j])
   have u:L[j]?=some y:=by rw[aaf t,hy]
   have v:(ah .u32 L)[j]?=some [.int .u32 (y:Int)]:=by simp[u]
   have hb:(ah .u32 L)[j]'(by simpa using t)=[.int .u32 (y:Int)]:=by rw[aaf (by simpa using t)] at v;exact aa2.inj v
   have w:((j:Int)<(L.length:Int))=True:=af8;simp(disch:=omega)[w,v];refine kF (zz2 y H) (λh=>by simp at h) ?_;simp[a.self];refine kF (zz2 x H) (λh=>by simp at h) ?_
   by_cases Q:y<=x
   .have z:j<rI x L:=by
     rcases aby j (rI x L) with h|h
     .exact h
     .have:j=rI x L:=an
      subst this;exact absurd Q (zs5 u)
    have A:((y:Int)<=(x:Int))=True:=af8;simp(disch:=omega)[a.self,A,au,d,g,bF,z,-aab]
   .have z:j=rI x L:=by
     rcases aby j (rI x L) with h|h
     .exact absurd (zCu h u) Q
     .omega
    have A:((y:Int)<=(x:Int))=False:=af9;have B:(j<=L.length)=True:=af8;have C:(ah .u32 (L.drop j)=[])=False:=eq_false (by rw[zEG,abJ];omega);have KR:(L.drop j).length=L.length-j:=List.length_drop
    have D:(L.take j).length=j:=by rw[aaA];omega
    have wk:((1+(L.length-j))*4<=140737488355328)=True:=af8;have E:((j+(L.length-j+1))*4<=140737488355328)=True:=af8;have F:(L.drop j).take (L.length-j)=L.drop j:=aaG an
    have I:S (k+1)=L.take j++x::L.drop j:=by rw[c,zxe,<-z]
    have GX:(ah .u32 (x::L.drop j)=[])=False:=eq_false (by simp[ah]);have Od:[V.int .u32 (x:Int)]::ah .u32 (L.drop j)=ah .u32 (x::L.drop j):=rfl;simp(disch:=omega)[a.self,A,au,d,B,zU,uL,F,C,KR,D,wk,E,GX,Od,zv8,m,Z,J,I,O,bF,f,M,-aab]
  .have iU:j=L.length:=an
   have w:((j:Int)<(L.length:Int))=False:=af9;have B:(j<=L.length)=True:=af8;have R:L.drop j=[]:=abJ.2 an
   have D:(L.take j).length=j:=by rw[aaA];omega
   have E:((j+1)*4<=140737488355328)=True:=af8
   have I:S (k+1)=L.take j++[x]:=by rw[c,zxe,show rI x L=j by omega,R]
   simp(disch:=omega)[w,au,d,B,zU,uL,R,D,E,m,J,I,O,bF,f,M,-aab]
 .have:k=l.length:=an
  subst this
  have e0:b l.length=.no:=by rw[i,if_neg an]
  simp(disch:=omega)[X,e0,a.self]
def zq5(R:Nat->List Ru)(o:Nat)(n:Nat):∀(l:List Nat) (c:List af),cP R o (l++[n]) c=((r_ (R n) ((cP R o l c).1,o)).1,(cP R o l c).2++[(n,(r_ (R n) ((cP R o l c).1,o)).2)])
 | [],c=>rfl
 | m::l,c=>by
  have a:=zq5 R o n l (r_ (R m) (c,o)).1;simp only[aao,cP,a]
def ZB(g:Nat->Nat):∀(l:List Nat) (k:Nat) (x:Nat),l[k]?=some x->eN g (l.take k)+g x<=eN g l
 | [],k,x,h=>by simp at h
 | y::l,0,x,h=>by simp at h;subst h;simp[eN]
 | y::l,k+1,x,h=>by
  have:=ZB g l k x (by simpa using h);simp only[List.take_succ_cons,eN];omega
def zxf(l:List (Nat×Nat))(x:Nat×Nat):EL l++[[.int .u32 (x.1:Int),.int .i64 (x.2:Int)]]=EL (l++[x]):=by simp[EL]
def zz3(es:List (V×V))(a:Nat)(l:List Nat)(n:Nat):Prop:=∃i tk,j0 (.sc .int) (.int .u32 (a:Int)) es 0=some (some (i,.vs (ah .u32 l) tk))/\∀m,n<=m->tk.cl m=tk
def zz4(es:List (V×V))(a k:Nat)(l:List Ru)(n:Nat):Prop:=∃i tk,j0 (.row [.int,.int]) (.agg [.int .u32 (a:Int),.int .u32 (k:Int)]) es 0=some (some (i,.vs (RL l) tk))/\∀m,n<=m->tk.cl m=tk
section
variable {H:ae} {b:Nat} {c:List af} {rs:List Ru}
def zz5[aE G][bJ G][eK G][ei G][dm G][eJ G][fw G](h:nu H b c .no){a o pn pm po px mn mo:Nat}{t N:List (V×V)}(u:H[pn]?=some (some (.cells [.mp mn])))(f:H[pm]?=some (some (.cells [.ptr b 0])))
  (O:H[po]?=some (some (.cells [.mp mo]))) (B:H[px]?=tS o) (Ad:H[mn]?=some (some (.map t))) (C:H[mo]?=some (some (.map N))) (P:zz3 t a (ia rs a) H.length) (hO:∀n∈ia rs a,zz4 N a n (iP rs a n) H.length)
  (i:∀r∈rs,r.du) (ha:a∈fH rs) (hl:rs.length<=100) (D:1<=o/\o<=c.length) (hc:c.length+D0 rs a<=4096) :
  SF G 425 [.int .u32 a,.ptr pn 0,.ptr pm 0,.ptr po 0,.ptr px 0] H (.int .i64 (xu rs o a c).length) (dJ H b (xu rs o a c)):=by
 refine j_ fw.aeF (aad rfl) ?_;have Q:=h.lb;have E:=SG ha
 have lS:(ia rs a).length<=100:=by
  have h1:=Oe ((rs.filter λr=>decide (r.aJ=a)).map (·.nr)) []
  have h2:=abl (λr=>decide (r.aJ=a)) rs;simp only[abC,abB,abc] at h1;have:(ia rs a).length<=(rs.filter λr=>decide (r.aJ=a)).length:=h1;omega
 obtain⟨iN,T,P,U⟩:=P;simp only[tS] at B;have wS:=zyk (G:=G) h.shut (ia rs a) T U E an;simp[u,Ad,P];refine cN wS ?_;have v:=Ob (ia rs a);have F:∀n∈qq (ia rs a),n∈ia rs a:=λn u=>ztl.1 u;obtain⟨d,p⟩:=ax (qq (ia rs a));have F4:=ztm (o:=o) i ha D
 have pv:Cr (iP rs a) d+6*d.length<=D0 rs a:=by rw[p,v];exact aaF _
 obtain⟨I,i2,W⟩:=Of (o:=o) (R:=iP rs a) (l:=d) (c:=c) (λ_ _=>Og i) D;have J:=ZE W;rw[<-p] at v F |-;obtain⟨S,q⟩:∃S:Nat->List af×List (Nat×Nat),∀k,S k=cP (iP rs a) o (d.take k) c:=⟨_,λ_=>rfl⟩
 have DZ:S 0=(c,[]):=by rw[q];rfl
 have zK:S d.length=cP (iP rs a) o d c:=by rw[q,aau]
 have Zz:∀k,k<=d.length->(S k).2.length=k:=λk hk=>by
  obtain⟨_,_,h3⟩:=Of (o:=o) (R:=iP rs a) (l:=d.take k) (c:=c) (λ_ _=>Og i) D;rw[q,ZE h3,aaA];omega
 have dN:=zrq h;have ZF:EL []=[]:=rfl;have hX:∀(c':List af) (n m:Nat),H.length+1<=m->[some (az.zone n)].map (aaq (az.cl m))=[some (az.zone n)]:=λ_ _ _ _=>rfl;have X:∀(c':List af) (n:Nat),nu (dJ H b c'++[some (.zone n)]) b c' .no:=λc' n=>(h.set c').app (λm f=>rfl)
 have g:∀(c':List af) (n:Nat),(dJ H b c'++[some (az.zone n)]).length=H.length+1:=λc' n=>by simp
 have fz:∀(c':List af) (n:Nat),ak (H.length+1) (dJ H b c'++[some (.zone n)])=dJ H b c'++[some (.zone n)]:=λc' n=>by have:=(X c' n).shut.self;rwa[g] at this
 have GU:∀(c':List af) (n:Nat) (r:ae),ak (H.length+1) (dJ H b c'++some (.zone n)::r)=dJ H b c'++[some (.zone n)]:=λc' n r=>by
  have:=(X c' n).shut.back r;rw[g,aa3] at this;exact this
 have Y:=h.ne f;have Z:=h.ne O;have hh:=h.ne B
 have hj:mo≠b:=by intro e;rw[e,h.hb] at C;simp[oq] at C
 have hq:pm<H.length:=(aae.1 f).1;have hr:po<H.length:=(aae.1 O).1;have hs:px<H.length:=(aae.1 B).1;have ht:mo<H.length:=(aae.1 C).1;have w:(pm<H.length+1)=True:=af8;have y:(po<H.length+1)=True:=af8;have z:(px<H.length+1)=True:=af8;have hu:(H.length+1<=pm)=False:=af9;have hv:(H.length+1<=po)=False:=af9;have hw:(H.length+1<=px)=False:=af9
 have ZG:∀(c':List af) (r:ae),(dJ H b c'++r)[pm]?=some (some (.cells [.ptr b 0])):=λc' r=>by rw[aan (by simpa using hq),F5 Y];exact f
 have hy:∀(c':List af) (r:ae),(dJ H b c'++r)[po]?=some (some (.cells [.mp mo])):=λc' r=>by rw[aan (by simpa using hr),F5 Z];exact O
 have A:∀(c':List af) (r:ae),(dJ H b c'++r)[px]?=some (some (.cells [.int .i64 o])):=λc' r=>by rw[aan (by simpa using hs),F5 hh];exact B
 have hz:∀(c':List af) (r:ae),(dJ H b c'++r)[mo]?=some (some (.map N)):=λc' r=>by rw[aan (by simpa using ht),F5 hj];exact C
 have gk:∀(c':List af) (r:ae) (k:Nat),(dJ H b c'++r)[H.length+k]?=r[k]?:=λc' r k=>by rw[aal ir,rf];congr 1;omega
 have zg:∀(c':List af) (r:ae),(dJ H b c'++r)[H.length]?=r[0]?:=λc' r=>gk c' r 0
 have Bl:∀(c':List af) (r:ae) (x:Option az),(dJ H b c'++r).set H.length x=dJ H b c'++r.set 0 x:=λc' r x=>by rw[aas _ _ ir,rf,ab7]
 have ZH:ak (H.length+1) (H++[some (.zone 0)])=H++[some (.zone 0)]:=by have:=fz c 0;rwa[dN] at this
 have dE:∀(c':List af) (r:ae),ak H.length (dJ H b c'++r)=dJ H b c':=λc' r=>by have:=(yk (b:=b) h.shut c').back r;rwa[rf] at this
 simp;refine aN d.length (λk=>[(0,.int .u32 a),(2,.ptr pm 0),(3,.ptr po 0),(4,.ptr px 0),(7,.vs (EL (S k).2) (.own H.length)),(13,.vs (ah .u32 d) .no),(14,.int .i64 d.length),(15,.int .i64 k)]) (λk=>dJ H b (S k).1++[some (.zone k)]) (λ_=>True) ?_ ?_
 .simp[au,DZ,dN,ZF,w,y,z,ZH]
 intro k hk _
 by_cases K:k<d.length
 .obtain⟨x,sH⟩:=ax (d[k])
  have L:d[k]?=some x:=by rw[aaf K,sH]
  have zh:(ah .u32 d)[k]?=some [.int .u32 (x:Int)]:=by simp[L]
  have xS:(ah .u32 d)[k]'(by simpa using K)=[.int .u32 (x:Int)]:=by rw[aaf (by simpa using K)] at zh;exact aa2.inj zh
  have j:S (k+1)=((r_ (iP rs a x) ((S k).1,o)).1,(S k).2++[(x,(r_ (iP rs a x) ((S k).1,o)).2)]):=by rw[q,q,aay,L];exact zq5 _ _ _ _ _
  obtain⟨M,_,_⟩:=Of (o:=o) (R:=iP rs a) (l:=d.take k) (c:=c) (λ_ _=>Og i) D;rw[<-q] at M;have ud:=Zz k hk;have JC:=ZB (λn=>uE (iP rs a n)) d k x L;obtain⟨iO,hB,hC,hD⟩:=hO x (F x (aah L));obtain⟨⟨c1,ZI⟩,rD⟩:=ax (S k);rw[<-rD] at j M ud |-;have gj:=M.grown.len;have lj:=M.nA;simp only[Cr] at j gj lj ud pv;have wr:=zAC (G:=G) ((h.set c1).app (R:=[some (.zone k),none]) (λm f=>rfl)) (iP rs a x) hB (λm f=>hD m (by simp at f;omega)) o (Og i) lj an
  rw[Oh (by simpa using Q),Cs] at wr
  have Io:cB [.int,.int] [.int .u32 (a:Int),.int .u32 (x:Int)] [.int .u32 (a:Int),.int .u32 (x:Int)]=some true:=by simp[cB,qi]
  simp(disch:=omega)[bC,zh];simp[ZG,hy,A,hz,hC,hu,hv,hw];refine cN wr ?_;have iQ:((k+1)*16<=140737488355328)=True:=af8;have dV:=zxf ZI (x,(r_ (iP rs a x) (c1,o)).2);simp only at dV;simp[SH,Bl,ud,iQ,dV,j,-aab];simp(disch:=omega)[au,GU,w,y,z,bF,K,-aab]
  done
 .have:k=d.length:=an
  subst this;rw[zK]
  have wt:=ZJ (G:=G) (o:=o) (cP (iP rs a) o d c).2.length (X (cP (iP rs a) o d c).1 d.length) (cP (iP rs a) o d c).2 (.own H.length) (λn u=>by simp at u;simp[Tk.cl];omega)
   (by intro e;rw[e] at J;simp at J;have:=Ob (ia rs a);rw[<-p] at this;exact E (abd.1 an)) (aaF _) i2
   (λe he=>ZK i (a:=a) (F _ (by rw[<-W];exact aag.2 ⟨e,he,rfl⟩))) I.nA (by have:=I.grown.len;simp only at this;omega)
  rw[Oh (by simpa using Q),Cs] at wt
  have tl:=(KS (o:=o) _ (by intro e;rw[e] at J;simp at J;have:=Ob (ia rs a);rw[<-p] at this;exact E (abd.1 an)) (aaF _) i2
   (λe he=>ZK i (a:=a) (F _ (by rw[<-W];exact aag.2 ⟨e,he,rfl⟩))) I.nA).grown.len
  have gi:=I.grown.len
  have hA:xu rs o a c=bY (bV (cP (iP rs a) o d c).2.length (cP (iP rs a) o d c).1 (cP (iP rs a) o d c).2 o).1 32 0:=by rw[p];rfl
  have mz:0<d.length:=by have:=Ob (ia rs a);rw[<-p] at this;have:=aba.2 E;omega
  generalize bV (cP (iP rs a) o d c).2.length (cP (iP rs a) o d c).1 (cP (iP rs a) o d c).2 o=s2 at *;generalize cP (iP rs a) o d c=s1 at *;have wa:=KU (G:=G) ((h.set s2.1).app (R:=[some (.zone d.length)]) (λm f=>rfl)) 32 0 (.inr (.inr ⟨rfl,aga,aga⟩)) (by simp only at gi;omega);rw[Oh (by simpa using Q),Cs,<-hA] at wa;simp(disch:=omega)[ZG,A];refine cN wt ?_;simp(disch:=omega)[ZG]
  refine cN wa ?_;simp[dE]
  done
end
open Go Go.RowKit
variable {G:aP}
def ZL(l:List Ru)(r:Ru):fH (l++[r])=vu (fH l) r.aJ:=by simp[fH,zpu]
def Oi(l:List Ru)(r:Ru)(a:Nat):ia (l++[r]) a=if r.aJ=a then vu (ia l a) r.nr else ia l a:=by
 unfold ia;rw[abL,aam]
 by_cases h:r.aJ=a
 .have e:[r].filter (λr=>decide (r.aJ=a))=[r]:=by simp[h]
  rw[e,if_pos h];simp[zpu]
 .have e:[r].filter (λr=>decide (r.aJ=a))=[]:=by simp[h]
  rw[e,if_neg h];simp
def KW(l:List Ru)(r:Ru)(a n:Nat):iP (l++[r]) a n=if r.aJ=a/\r.nr=n then iP l a n++[r] else iP l a n:=by
 unfold iP;rw[abL]
 by_cases h:r.aJ=a/\r.nr=n
 .have e:[r].filter (λr=>decide (r.aJ=a/\r.nr=n))=[r]:=by simp[h]
  rw[e,if_pos h]
 .have e:[r].filter (λr=>decide (r.aJ=a/\r.nr=n))=[]:=by rw[List.filter_cons,if_neg (by simpa using h)];rfl
  rw[e,if_neg h];simp
def SI{l:List Ru}{a:Nat}:a∈fH l↔∃r∈l,r.aJ=a:=by rw[fH,IF,aag]
def SJ{l:List Ru}{a n:Nat}:n∈ia l a↔∃r∈l,r.aJ=a/\r.nr=n:=by
 rw[ia,IF,aag];constructor
 .rintro⟨r,b,h⟩;rw[abE] at b;exact⟨r,b.1,by simpa using b.2,h⟩
 .rintro⟨r,b,c,d⟩;exact⟨r,abE.2 ⟨b,by simpa using c⟩,d⟩
abbrev EN:=Nat×List Nat×Nat
abbrev EO:=(Nat×Nat)×List Ru×Nat
structure kq (l:List Ru) (of:List EO) (dH:List EN) (ms:List Nat) (Z:ae):Prop where
 sU:ms=fH l
 nk:dH.map (·.1)=fH l
 nv:∀e∈dH,e.2.1=ia l e.1
 ok:(of.map (·.1)).Nodup
 om:∀k,k∈of.map (·.1)↔∃r∈l,(r.aJ,r.nr)=k
 ov:∀e∈of,e.2.1=iP l e.1.1 e.1.2
 nz:∀e∈dH,Z[e.2.2]?=some (some (.zone e.2.1.length))
 oz:∀e∈of,Z[e.2.2]?=some (some (.zone e.2.1.length))
 dz:(dH.map (·.2.2)++of.map (·.2.2)).Nodup
 cz:∀n,Z.map (aaq (az.cl n))=Z
def ou{α:Type}{l:List α}{j:Nat}{a e:α}(h:e∈l.set j a):e=a\/∃i,i≠j/\l[i]?=some e:=by
 obtain⟨i,hi⟩:=aaO h;rw[abx] at hi
 by_cases b:j=i
 .rw[if_pos b] at hi;split at hi
  .left;exact(aa2.inj hi).symm
  .cases hi
 .rw[if_neg b] at hi;exact .inr ⟨i,Ne.symm b,hi⟩
def SK{α β:Type}(f:α->β){l:List α}{j:Nat}{a b:α}(h:l[j]?=some a)(d:f b=f a):(l.set j b).map f=l.map f:=by
 apply abT;intro i;simp only[aaM,abx]
 by_cases c:j=i
 .subst c;rw[if_pos rfl,h];have:=(aae.1 h).1;rw[if_pos this];simp[d]
 .rw[if_neg c]
def KX{α β:Type}{f:α->β}{l:List α}{i j:Nat}{a b:α}(c:(l.map f).Nodup)(hi:l[i]?=some a)(d:l[j]?=some b)(h:i≠j):f a≠f b:=by intro e;have g:=(aae.1 hi).1;refine h ((List.getElem?_inj (l:=l.map f) (by simpa using g) c).1 ?_);rw[aaM,aaM,hi,d,abZ,abZ,e]
def SL{Z r:ae}{z:Nat}{x:Option az}(h:Z[z]?=some x):(Z++r)[z]?=some x:=by rw[aan (aae.1 h).1];exact h
def zGb{Z r:ae}(h:∀n,Z.map (aaq (az.cl n))=Z)(a:∀n,r.map (aaq (az.cl n))=r):∀n,(Z++r).map (aaq (az.cl n))=Z++r:=λn=>by rw[aam,h,a]
def zz6{Z:ae}{z m:Nat}(h:∀n,Z.map (aaq (az.cl n))=Z):∀n,(Z.set z (some (.zone m))).map (aaq (az.cl n))=Z.set z (some (.zone m)):=λn=>by rw[CW,h];rfl
section
variable {l:List Ru} {of:List EO} {dH:List EN} {ms:List Nat} {Z R:ae} {r:Ru}
def kq.pH(h:kq l of dH ms Z){e:EO}(a:e∈of):e.2.2<Z.length:=(aae.1 (h.oz e a)).1
def kq.pI(h:kq l of dH ms Z){e:EN}(a:e∈dH):e.2.2<Z.length:=(aae.1 (h.nz e a)).1
def kq.more(h:kq l of dH ms Z)(b:∀n,R.map (aaq (az.cl n))=R):kq l of dH ms (Z++R) :=
 ⟨h.sU,h.nk,h.nv,h.ok,h.om,h.ov,λe a=>SL (h.nz e a),λe a=>SL (h.oz e a),h.dz,zGb h.cz b⟩
def kq.ZM(h:kq l of dH ms Z){j z:Nat}{d:List Ru}(f:of[j]?=some ((r.aJ,r.nr),d,z)):kq (l++[r]) (of.set j ((r.aJ,r.nr),d++[r],z)) dH ms (Z.set z (some (.zone (d.length+1)))):=by
 have m:=aah f;obtain⟨o,p,n⟩:=(h.om (r.aJ,r.nr)).1 (aag.2 ⟨_,m,rfl⟩);simp only[acd.injEq] at n;have u:r.aJ∈fH l:=SI.2 ⟨o,p,n.1⟩;have v:r.nr∈ia l r.aJ:=SJ.2 ⟨o,p,n⟩
 have s:fH (l++[r])=fH l:=by rw[ZL,vu,if_pos u]
 have w:∀a,ia (l++[r]) a=ia l a:=λa=>by
  rw[Oi];split
  .rename_i e;subst e;rw[vu,if_pos v]
  .rfl
 have hd:=h.dz;rw[aaz] at hd;obtain⟨D,y,A⟩:=hd;have B:=h.pH m
 have t:(of.set j ((r.aJ,r.nr),d++[r],z)).map (·.1)=of.map (·.1):=SK (·.1) f (by rfl)
 have C:(of.set j ((r.aJ,r.nr),d++[r],z)).map (·.2.2)=of.map (·.2.2):=SK (·.2.2) f (by rfl)
 refine⟨by rw[s];exact h.sU,by rw[s];exact h.nk,λe b=>by rw[w];exact h.nv e b,?_,λk=>?_,λe b=>?_,λe b=>?_,λe b=>?_,?_,zz6 h.cz⟩
 .rw[t];exact h.ok
 .rw[t,h.om];constructor
  .rintro⟨x,c,e⟩;exact⟨x,by simp[c],e⟩
  .rintro⟨x,c,e⟩
   rcases aai.1 c with c|c
   .exact⟨x,c,e⟩
   .rw[aar] at c;subst c;exact⟨o,p,by rw[<-e];simp[n]⟩
 .rcases ou b with rfl|⟨i,hi,g⟩
  .simp only;rw[KW,if_pos ⟨rfl,rfl⟩,<-h.ov _ m]
  .have:=KX h.ok g f hi;rw[KW,if_neg (λq=>this (abr q.1.symm q.2.symm))];exact h.ov e (aah g)
 .have:e.2.2≠z:=A _ (aag.2 ⟨e,b,rfl⟩) _ (aag.2 ⟨_,m,rfl⟩);rw[aaP (Ne.symm this)];exact h.nz e b
 .rcases ou b with rfl|⟨i,hi,g⟩
  .simp only;rw[aa1 B];simp
  .have:=KX y g f hi;rw[aaP (Ne.symm this)];exact h.oz e (aah g)
 .rw[C];exact h.dz
def kq.ZN(h:kq l of dH ms Z)(o:(r.aJ,r.nr)∉of.map (·.1)){j z m:Nat}{b:List Nat}(c:dH[j]?=some (r.aJ,b,z))(t:Z[m]?=some (some (.zone 1)))(n:m∉dH.map (·.2.2)++of.map (·.2.2)) :
  kq (l++[r]) (of++[((r.aJ,r.nr),[r],m)]) (dH.set j (r.aJ,b++[r.nr],z)) ms (Z.set z (some (.zone (b.length+1)))):=by
 have d:=aah c
 have u:r.aJ∈fH l:=by rw[<-h.nk];exact aag.2 ⟨_,d,rfl⟩
 have p:r.nr∉ia l r.aJ:=λv=>by
  obtain⟨x,a,e⟩:=SJ.1 v;exact o ((h.om _).2 ⟨x,a,abr e.1 e.2⟩)
 have w:iP l r.aJ r.nr=[]:=zxo p
 have s:fH (l++[r])=fH l:=by rw[ZL,vu,if_pos u]
 have hd:=h.dz;rw[aaz] at hd;obtain⟨A,H,B⟩:=hd;rw[aai,not_or] at n;have C:=h.pI d
 have D:(dH.set j (r.aJ,b++[r.nr],z)).map (·.1)=dH.map (·.1):=SK (·.1) c (by rfl)
 have E:(dH.set j (r.aJ,b++[r.nr],z)).map (·.2.2)=dH.map (·.2.2):=SK (·.2.2) c (by rfl)
 have F:m≠z:=λe=>n.1 (by rw[e];exact aag.2 ⟨_,d,rfl⟩);refine⟨by rw[s];exact h.sU,by rw[D,s];exact h.nk,λe he=>?_,?_,λk=>?_,λe he=>?_,λe he=>?_,λe he=>?_,?_,zz6 h.cz⟩
 .rcases ou he with rfl|⟨i,hi,f⟩
  .simp only;rw[Oi,if_pos rfl,vu,if_neg p,<-h.nv _ d]
  .have G:(dH.map (·.1)).Nodup:=by rw[h.nk];exact Oj _
   have:=KX G f c hi;rw[Oi,if_neg (Ne.symm this)];exact h.nv e (aah f)
 .rw[aam,aaz];exact⟨h.ok,ir,λx a y g e=>o (by simp at g;rw[e,g] at a;exact a)⟩
 .rw[aam,aai,h.om];constructor
  .rintro(⟨x,a,e⟩|a)
   .exact⟨x,by simp[a],e⟩
   .simp at a;exact⟨r,ir,a.symm⟩
  .rintro⟨x,a,e⟩
   rcases aai.1 a with a|a
   .exact .inl ⟨x,a,e⟩
   .rw[aar] at a;subst a;exact .inr (by simp[<-e])
 .rcases aai.1 he with he|he
  .have:e.1≠(r.aJ,r.nr):=λq=>o (by rw[<-q];exact aag.2 ⟨e,he,rfl⟩);rw[KW,if_neg (λq=>this (abr q.1.symm q.2.symm))];exact h.ov e he
  .rw[aar] at he;subst he;simp only;rw[KW,if_pos ⟨rfl,rfl⟩,w];rfl
 .rcases ou he with rfl|⟨i,hi,f⟩
  .simp only;rw[aa1 C];simp
  .have:=KX A f c hi;rw[aaP (Ne.symm this)];exact h.nz e (aah f)
 .rcases aai.1 he with he|he
  .have:z≠e.2.2:=B _ (aag.2 ⟨_,d,rfl⟩) _ (aag.2 ⟨e,he,rfl⟩);rw[aaP this];exact h.oz e he
  .rw[aar] at he;subst he;simp only;rw[aaP F.symm];exact t
 .rw[E,aam,<-aa3,aaz]
  exact⟨h.dz,ir,λx a y g e=>by
   simp at g;rw[e,g] at a
   rcases aai.1 a with a|a
   .exact n.1 a
   .exact n.2 a⟩
def kq.ZO(h:kq l of dH ms Z)(c:r.aJ∉dH.map (·.1)){z d:Nat}(o:Z[z]?=some (some (.zone 1)))(p:Z[d]?=some (some (.zone 1)))(f:z∉dH.map (·.2.2)++of.map (·.2.2))(g:d∉dH.map (·.2.2)++of.map (·.2.2))(s:z≠d) :
  kq (l++[r]) (of++[((r.aJ,r.nr),[r],d)]) (dH++[(r.aJ,[r.nr],z)]) (ms++[r.aJ]) Z:=by
 rw[h.nk] at c
 have i:(r.aJ,r.nr)∉of.map (·.1):=λt=>by
  obtain⟨x,a,e⟩:=(h.om _).1 t;exact c (SI.2 ⟨x,a,(acd.inj e).1⟩)
 have j:ia l r.aJ=[]:=by rw[List.eq_nil_iff_forall_not_mem];intro n u;obtain⟨x,a,e⟩:=SJ.1 u;exact c (SI.2 ⟨x,a,e.1⟩)
 have v:iP l r.aJ r.nr=[]:=zxo (by rw[j];simp)
 have m:fH (l++[r])=fH l++[r.aJ]:=by rw[ZL,vu,if_neg c]
 have hd:=h.dz;rw[aaz] at hd;obtain⟨w,A,B⟩:=hd;rw[aai,not_or] at g f;refine⟨by rw[m,h.sU],by rw[aam,h.nk,m];rfl,λe he=>?_,?_,λk=>?_,λe he=>?_,λe he=>?_,λe he=>?_,?_,h.cz⟩
 .rcases aai.1 he with he|he
  .have:r.aJ≠e.1:=λq=>c (by rw[q,<-h.nk];exact aag.2 ⟨e,he,rfl⟩);rw[Oi,if_neg this];exact h.nv e he
  .rw[aar] at he;subst he;simp only;rw[Oi,if_pos rfl,j];rfl
 .rw[aam,aaz];exact⟨h.ok,ir,λx a y b e=>i (by simp at b;rw[e,b] at a;exact a)⟩
 .rw[aam,aai,h.om];constructor
  .rintro(⟨x,a,e⟩|a)
   .exact⟨x,by simp[a],e⟩
   .simp at a;exact⟨r,ir,a.symm⟩
  .rintro⟨x,a,e⟩
   rcases aai.1 a with a|a
   .exact .inl ⟨x,a,e⟩
   .rw[aar] at a;subst a;exact .inr (by simp[<-e])
 .rcases aai.1 he with he|he
  .have:e.1≠(r.aJ,r.nr):=λq=>i (by rw[<-q];exact aag.2 ⟨e,he,rfl⟩);rw[KW,if_neg (λq=>this (abr q.1.symm q.2.symm))];exact h.ov e he
  .rw[aar] at he;subst he;simp only;rw[KW,if_pos ⟨rfl,rfl⟩,v];rfl
 .rcases aai.1 he with he|he
  .exact h.nz e he
  .rw[aar] at he;subst he;exact o
 .rcases aai.1 he with he|he
  .exact h.oz e he
  .rw[aar] at he;subst he;exact p
 .rw[aam,aam,aaz];refine⟨?_,?_,?_⟩
  .rw[aaz];exact⟨w,ir,λx a y b e=>by simp at b;rw[e,b] at a;exact f.1 a⟩
  .rw[aaz];exact⟨A,ir,λx a y b e=>by simp at b;rw[e,b] at a;exact g.2 a⟩
  .intro x a y b e
   rcases aai.1 a with a|a<;>rcases aai.1 b with b|b
   .exact B x a y b e
   .simp at b;rw[e,b] at a;exact g.1 a
   .simp at a;rw[<-e,a] at b;exact f.2 b
   .simp at a b;rw[a,b] at e;exact s e
end
open Go Go.RowKit
variable {G:aP}
def ZP{S:Type}(m:S->Nat)(E:S->List (Nat×V))(B:S->ae)(P:S->Prop)(l:List Nat)(k:Nat)(s:S)(a:Env)(H1:ae):Prop :=
 ∃s' kk,m s'<m s/\P s'/\k<=kk/\kk<=H1.length/\(oJ l a).cl kk=gP (E s')/\ak kk H1=B s'
def SM{S:Type}(G:aP)(K:List Kt)(Q:Ex->Env->ae->Prop)(l:List Nat)(k:Nat)(m:S->Nat)(E:S->List (Nat×V))(B:S->ae)(P:S->Prop)(s:S)(x:Ex)(a:Env)(H1:ae):Prop :=
 match x with
 | .nx=>ZP m E B P l k s a H1
 | x=>Wr G x K a H1 Q
section
variable {K:List Kt} {Q:Ex->Env->ae->Prop} {e:Env} {H:ae} {l:List Nat} {k:Nat} {S:Type} {m:S->Nat} {E:S->List (Nat×V)} {B:S->ae} {P:S->Prop} {s:S}
@[simp] theorem ZQ:SM G K Q l k m E B P s .nx e H=ZP m E B P l k s e H:=rfl
@[simp] theorem zLF (i:Nat):SM G K Q l k m E B P s (.exit i) e H=Wr G (.exit i) K e H Q:=rfl
@[simp] theorem zLO:SM G K Q l k m E B P s .ret e H=Wr G .ret K e H Q:=rfl
theorem zCv{c:ba}(m:S->Nat)(E:S->List (Nat×V))(B:S->ae)(P:S->Prop)(a:S)
  (b:P a/\(oJ l e).cl H.length=gP (E a)/\ak H.length H=B a)
  (f:∀s,P s->W G c [] (gP (E s)) (B s) (SM G K Q l H.length m E B P s)):W G (.loop l c) K e H Q:=by
 refine zEs (λk e H=>∃s,k=m s/\P s/\e=gP (E s)/\H=B s) (m a) ⟨a,rfl,b.1,b.2.1,b.2.2⟩ ?_;rintro k e' H' ⟨s,rfl,g,rfl,rfl⟩;obtain⟨x,h,H1,i,d⟩:=f s g;refine⟨x,h,H1,i,?_⟩
 cases x with
 | nx=>obtain⟨s',kk,j,n,o,p,q,r⟩:=d;exact⟨m s',kk,j,o,p,s',rfl,n,q,r⟩
 | exit id=>exact d
 | ret=>exact d
end
def vN(e:EN):V×V:=(.int .u32 (e.1:Int),.vs (ah .u32 e.2.1) (.own (e.2.2+9)))
def vO(e:EO):V×V:=(.agg [.int .u32 (e.1.1:Int),.int .u32 (e.1.2:Int)],.vs (RL e.2.1) (.own (e.2.2+9)))
def LH(p:Po)(c:List af)(of dH:List (V×V))(m:Nat)(Z:ae):ae :=
 [some (.cells p.cs),some (oq c .no),some (.cells [.ptr 1 0]),some (.cells [.int .i64 1]),some (.map of),some (.cells [.mp 4]),some (.map dH),some (.cells [.mp 6]),some (.zone m)]++Z
section
variable {p:Po} {c:List af} {of dH:List (V×V)} {m:Nat} {Z:ae}
def sV:(LH p c of dH m Z).length=Z.length+9:=by simp[LH]
def F6(r:ae):LH p c of dH m Z++r=LH p c of dH m (Z++r):=by simp[LH]
def Ok:(LH p c of dH m Z)[1]?=some (some (.cells [.vs (IL c) .no,.int .i64 0])):=rfl
def Bn:(LH p c of dH m Z)[2]?=some (some (.cells [.ptr 1 0])):=rfl
def Ol:(LH p c of dH m Z)[3]?=some (some (.cells [.int .i64 1])):=rfl
def D4:(LH p c of dH m Z)[4]?=some (some (.map of)):=rfl
def D5:(LH p c of dH m Z)[5]?=some (some (.cells [.mp 4])):=rfl
def IH:(LH p c of dH m Z)[6]?=some (some (.map dH)):=rfl
def II:(LH p c of dH m Z)[7]?=some (some (.cells [.mp 6])):=rfl
def ZR:(LH p c of dH m Z)[8]?=some (some (.zone m)):=rfl
def zj(z:Nat):(LH p c of dH m Z)[z+9]?=Z[z]?:=by rw[LH,aal ir];simp
def ZS(a:List (V×V)):(LH p c of dH m Z).set 4 (some (.map a))=LH p c a dH m Z:=rfl
def zDs(a:List (V×V)):(LH p c of dH m Z).set 6 (some (.map a))=LH p c of a m Z:=rfl
def zKQ(a:Nat):(LH p c of dH m Z).set 8 (some (.zone a))=LH p c of dH a Z:=rfl
def KY(z:Nat)(x:Option az):(LH p c of dH m Z).set (z+9) x=LH p c of dH m (Z.set z x):=by rw[LH,aas _ _ ir];simp[LH]
end
section
variable {p:Po} {c:List af} {of:List EO} {dH:List EN} {m:Nat} {Z:ae}
def ZT(n:Nat)(r:Ru):a_ n r.cs=r.cs:=by rw[iW];simp[Ru.cs,V.cl,Tk.cl]
def ZU(b:∀n,Z.map (aaq (az.cl n))=Z)(d:∀e∈of,e.2.2<Z.length)(f:∀e∈dH,e.2.2<Z.length):gV (LH p c (of.map vO) (dH.map vN) m Z):=by
 intro n g;rw[sV] at g
 have h:(of.map vO).map (λq=>(q.1.cl n,q.2.cl n))=of.map vO:=by rw[ab8];refine abK λe a=>?_;have:=d e a;simp[vO,V.cl,a_,Tk.cl,show e.2.2+9<n by omega]
 have i:(dH.map vN).map (λq=>(q.1.cl n,q.2.cl n))=dH.map vN:=by rw[ab8];refine abK λe a=>?_;have:=f e a;simp[vN,V.cl,Tk.cl,show e.2.2+9<n by omega]
 unfold LH;rw[aam,b]
 congr 1
 simp[oq,az.cl,Po.cs,a_,V.cl,Tk.cl,show 1<n by omega,show 4<n by omega,show 6<n by omega];exact⟨by simpa using h,by simpa using i⟩
def ZV{ks:Ky}{k:V}:∀{es:List (V×V)} (i:Nat),(∀p∈es,j4 ks k p.1=some false)->j0 ks k es i=some none
 | [],_,_=>rfl
 | q::es,i,h=>by
  simp only[j0,h q ir];exact ZV (i+1) λp a=>h p (by simp[a])
def ZW{ks:Ky}{k:V}:∀{es:List (V×V)} (i j:Nat) {q:V×V},es[j]?=some q->j4 ks k q.1=some true->(∀a<j,∀p,es[a]?=some p->j4 ks k p.1=some false)->j0 ks k es i=some (some (i+j,q.2))
 | [],_,_,_,h,_,_=>by simp at h
 | x::es,i,0,q,h,b,_=>by
  simp at h;subst h
  simp only[j0,b,Nat.add_zero]
 | x::es,i,j+1,q,h,b,c=>by
  have d:=c 0 an x rfl;simp only[j0,d];have:=ZW (i+1) j (q:=q) (by simpa using h) b (λa f p e=>c (a+1) an p (by simpa using e));rw[this,show i+1+j=i+(j+1) by omega]
def D6(a b:Nat):j4 (.sc .int) (.int .u32 (a:Int)) (.int .u32 (b:Int))=some (decide (a=b)):=by simp[j4,qi];rw[ab0];simp
def D7(a n b k:Nat):j4 (.row [.int,.int]) (.agg [.int .u32 (a:Int),.int .u32 (n:Int)]) (.agg [.int .u32 (b:Int),.int .u32 (k:Int)])=some (decide (a=b/\n=k)):=by simp[j4,cB,qi];rw[ab0];simp
def zCw{a:Nat}(h:a∉dH.map (·.1)):j0 (.sc .int) (.int .u32 (a:Int)) (dH.map vN) 0=some none:=by refine ZV 0 λq b=>?_;obtain⟨e,c,rfl⟩:=aag.1 b;rw[vN,D6,decide_eq_false];exact λd=>h (d▸aag.2 ⟨e,c,rfl⟩)
def zDt{j a z:Nat}{l:List Nat}(c:(dH.map (·.1)).Nodup)(h:dH[j]?=some (a,l,z)):j0 (.sc .int) (.int .u32 (a:Int)) (dH.map vN) 0=some (some (j,.vs (ah .u32 l) (.own (z+9)))):=by
 have:=ZW (ks:=.sc .int) (k:=.int .u32 (a:Int)) (es:=dH.map vN) 0 j (q:=vN (a,l,z)) (by simp[h]) (by rw[vN,D6];simp) (λg i q b=>by
  rw[aaM,abI] at b;obtain⟨e,d,rfl⟩:=b;rw[vN,D6,decide_eq_false]
  exact λf=>KX c d h an f.symm)
 rw[this,abc];rfl
def zCx{a n:Nat}(h:(a,n)∉of.map (·.1)):j0 (.row [.int,.int]) (.agg [.int .u32 (a:Int),.int .u32 (n:Int)]) (of.map vO) 0=some none:=by refine ZV 0 λq c=>?_;obtain⟨e,d,rfl⟩:=aag.1 c;rw[vO,D7,decide_eq_false];exact λb=>h (aag.2 ⟨e,d,abr b.1.symm b.2.symm⟩)
def zDu{j a n z:Nat}{l:List Ru}(d:(of.map (·.1)).Nodup)(h:of[j]?=some ((a,n),l,z)):j0 (.row [.int,.int]) (.agg [.int .u32 (a:Int),.int .u32 (n:Int)]) (of.map vO) 0=some (some (j,.vs (RL l) (.own (z+9)))):=by
 have:=ZW (ks:=.row [.int,.int]) (k:=.agg [.int .u32 (a:Int),.int .u32 (n:Int)]) (es:=of.map vO) 0 j (q:=vO ((a,n),l,z)) (by simp[h]) (by rw[vO,D7];simp) (λg i q b=>by
  rw[aaM,abI] at b;obtain⟨e,f,rfl⟩:=b;rw[vO,D7,decide_eq_false]
  exact λc=>KX d f h an (abr c.1.symm c.2.symm))
 rw[this,abc];rfl
end
open Go Go.RowKit
variable {G:aP}
def Ru.wf(r:Ru):Prop:=r.conds.length<=maxLen/\(∀x∈r.conds,x.ok)/\r.aJ<4294967296/\r.nr<4294967296/\r.act<4294967296
def Po.wf(p:Po):Prop:=p.rules.length<=maxLen/\(∀r∈p.rules,r.wf)/\p.eR<4294967296
def zq6{p:Po}(h:p.wf)(a:yN p=true):p.du/\p.rules.length<=64/\∀r∈p.rules,r.conds.length<=4:=by simp only[yN,aaL,decide_eq_true_eq,aa_,jb] at a;obtain⟨⟨b,e⟩,d⟩:=a;exact⟨⟨λr a=>⟨λx c=>⟨(b r a).1.1 x c,(h.2.1 r a).2.1 x c⟩,(h.2.1 r a).2.2⟩,h.2.2⟩,d,λr a=>(b r a).2⟩
def zpq(rs:List Ru)(o:Nat)(a:Nat):∀(l:List Nat) (c:List af),kK rs o (l++[a]) c=(xu rs o a (kK rs o l c).1,(kK rs o l c).2++[(a,(xu rs o a (kK rs o l c).1).length)])
 | [],c=>rfl
 | m::l,c=>by
  have b:=zpq rs o a l (xu rs o m c);simp only[aao,kK,b]
def zpr(x:Nat×Nat):∀(l:List (Nat×Nat)) (s:tT),d_ (l++[x]) s=(ib (d_ l s).1 21 x.1 x.2 (d_ l s).2,(ib (d_ l s).1 21 x.1 x.2 (d_ l s).2).length)
 | [],s=>rfl
 | y::l,s=>by
  have a:=zpr x l (ib s.1 21 y.1 y.2 s.2,(ib s.1 21 y.1 y.2 s.2).length);simp only[aao,d_,a]
structure Om where
 i:Nat
 of:List EO
 dH:List EN
 ms:List Nat
 Z:ae
def zCy[fP G][bS G][kY G][aE G][bJ G][eK G][ei G][dm G][eJ G][fw G](p:Po)(hp:p.wf) :
  FP G 428 [.agg p.cs] (.bf [FL (if yN p then qM p else []),.int .i64 (if yN p then 0 else 1)]):=by
 refine bA fw.aeG (aad rfl) ?_;have wr:=zwn (G:=G) p hp.1 (λr t=>⟨(hp.2.1 r t).1,(hp.2.1 r t).2.2.2.2⟩) hp.2.2;simp only[Po.cs] at wr;simp[Po.cs];refine aw wr ?_
 cases t:yN p with
 | false=>simp[FL]
 | true =>
  obtain⟨K,hl,jU⟩:=zq6 hp t;have rT:nu [some (.cells p.cs),some (oq [] .full),some (.cells [.ptr 1 0]),none] 1 [] .full:=⟨rfl,.inr rfl,by intro n hn;simp at hn;simp[oq,az.cl,Po.cs,a_,V.cl,Tk.cl,show 1<n by omega]⟩;have w0:=KU (G:=G) rT 6 p.eR (.inr (.inl rfl)) ir;obtain⟨g,Rr⟩:=ax (bY [] 6 p.eR)
  have ZX:g.length=1:=by rw[Rr];rfl
  rw[<-Rr] at w0;rw[ZX] at w0;simp only[oq,Po.cs,zFW] at w0;simp;refine cN w0 ?_;simp[dJ,oq]
  have lO:(RL p.rules).length=p.rules.length:=by simp
  refine zCv (λs:Om=>p.rules.length-s.i) (λs=>[(4,.ptr 2 0),(5,.ptr 3 0),(6,.ptr 5 0),(7,.ptr 7 0),(8,.vs (ah .u32 s.ms) (.own 8)),(31,.vs (RL p.rules) .no),(32,.int .i64 p.rules.length),(33,.int .i64 s.i)])
   (λs=>LH p g (s.of.map vO) (s.dH.map vN) s.ms.length s.Z) (λs=>s.i<=p.rules.length/\kq (p.rules.take s.i) s.of s.dH s.ms s.Z) ⟨0,[],[],[],[]⟩ ?_ ?_
  .refine⟨⟨abG _,⟨rfl,rfl,ir,ir,ir,ir,ir,ir,ir,λ_=>rfl⟩⟩,?_⟩;simp[au,ak,LH,oq,Po.cs]
   done
  rintro⟨i,of,dH,ms,Z⟩ ⟨hi,b⟩;simp only at hi b |-;have fz:∀r:ae,(∀n,r.map (aaq (az.cl n))=r)->gV (LH p g (of.map vO) (dH.map vN) ms.length (Z++r)):=λr t=>ZU (b.more t).cz (λe d=>(b.more t).pH d) (λe d=>(b.more t).pI d)
  by_cases aj:i<p.rules.length
  .obtain⟨r,Nk⟩:=ax (p.rules[i])
   have hg:p.rules[i]?=some r:=by rw[aaf aj,Nk]
   have L:=ZY hg
   have gn:(RL p.rules)[i]'(by simpa using aj)=r.cs:=by rw[aaf (by simpa using aj)] at L;exact aa2.inj L
   have eT:p.rules.take (i+1)=p.rules.take i++[r]:=by rw[aay,hg];rfl
   have A:∀(R:ae) (k:Nat),(Z++R)[Z.length+k]?=R[k]?:=λR k=>by rw[aal an];congr 1;omega
   have U:∀(R:ae),(Z++R)[Z.length]?=R[0]?:=λR=>A R 0
   have sk:∀(R:ae) (k:Nat) (x:Option az),(Z++R).set (Z.length+k) x=Z++R.set k x:=λR k x=>by rw[aas _ _ an];congr 2;omega
   have Bl:∀(R:ae) (x:Option az),(Z++R).set Z.length x=Z++R.set 0 x:=λR x=>sk R 0 x;simp only[Ru.cs] at L gn
   have On:∀a n,(iP (p.rules.take i) a n).length<=64:=λa n=>by have h1:=abl (λr:Ru=>decide (r.aJ=a/\r.nr=n)) (p.rules.take i);have h2:=abp i p.rules;unfold iP;omega
   have ZZ:∀l:List Ru,(∀f∈RL l,f.length=4)=True:=λl=>eq_true (λf K=>by simp only[RL,aag] at K;obtain⟨x,_,rfl⟩:=K;rfl)
   have Z0:∀l:List Ru,RL l++[[.int .u32 (r.aJ:Int),.int .u32 (r.nr:Int),.vs (CL r.conds) .no,.int .u32 (r.act:Int)]]=RL (l++[r]):=λl=>by simp[RL,Ru.cs]
   have kg:=D7 r.aJ r.nr r.aJ r.nr;simp only[and_self,decide_true] at kg;have B3:=D6 r.aJ r.aJ;simp only[decide_true] at B3
   have M:∀(IJ:List EO) (xw:List EN) (W:List Nat) (D:ae) (F:Env) (H1:ae),kq (p.rules.take (i+1)) IJ xw W D->H1=LH p g (IJ.map vO) (xw.map vN) W.length D ->
     (oJ [4,5,6,7,8,31,32,33] F).cl (D.length+9)=gP [(4,.ptr 2 0),(5,.ptr 3 0),(6,.ptr 5 0),(7,.ptr 7 0),(8,.vs (ah .u32 W) (.own 8)),(31,.vs (RL p.rules) .no),(32,.int .i64 p.rules.length),(33,.int .i64 (i+1:Nat))] ->
     ZP (λs:Om=>p.rules.length-s.i) (λs=>[(4,.ptr 2 0),(5,.ptr 3 0),(6,.ptr 5 0),(7,.ptr 7 0),(8,.vs (ah .u32 s.ms) (.own 8)),(31,.vs (RL p.rules) .no),(32,.int .i64 p.rules.length),(33,.int .i64 s.i)])
      (λs=>LH p g (s.of.map vO) (s.dH.map vN) s.ms.length s.Z) (λs=>s.i<=p.rules.length/\kq (p.rules.take s.i) s.of s.dH s.ms s.Z) [4,5,6,7,8,31,32,33] 9 ⟨i,of,dH,ms,Z⟩ F H1:=by
    intro IJ xw W D F H1 sI hH d;subst hH;have hs:=(ZU (p:=p) (c:=g) (m:=W.length) sI.cz (λe d=>sI.pH d) (λe d=>sI.pI d)).self;rw[sV] at hs;exact⟨⟨i+1,IJ,xw,W,D⟩,D.length+9,by simp only;omega,⟨aj,sI⟩,an,by rw[sV];exact aaF _,d,hs⟩
   simp(disch:=omega)[bC,gn,F6,sV,zj,KY,A,U,sk,Bl]
   by_cases X:(r.aJ,r.nr)∈of.map (·.1)
   .obtain⟨e,d,B⟩:=aag.1 X;obtain⟨j,E⟩:=aaO d;obtain⟨⟨ea,en⟩,w,z⟩:=e;simp only[acd.injEq] at B;obtain⟨rfl,rfl⟩:=B;have y6:=zDu b.ok E;have xE:=b.ov _ d;simp only at xE
    have hE:w.length<=64:=by rw[xE];exact On _ _
    have Z1:(w.length==0)=false:=by
     obtain⟨x,hx,eZ⟩:=(b.om (r.aJ,r.nr)).1 X
     have:x∈w:=by rw[xE,iP];exact abE.2 ⟨hx,by simpa using eZ⟩
     have:=List.length_pos_of_mem this;exact beq_false_of_ne an
    have Oo:((w.length:Int)==0)=false:=aL (by have:=ne_of_beq_false Z1;omega);have hz:=b.oz _ d;simp only at hz;have N:=b.pH d;simp only at N;have gz:∀R:ae,(Z++R)[z]?=some (some (.zone w.length)):=λR=>SL hz;have sz:∀(R:ae) (x:Option az),(Z++R).set z x=Z.set z x++R:=λR x=>aa9 _ _ N
    have hb:(of.map vO)[j]?=some (.agg [.int .u32 (r.aJ:Int),.int .u32 (r.nr:Int)],.vs (RL w) (.own (z+9))):=by rw[aaM,E];rfl
    have F:(of.map vO).set j (.agg [.int .u32 (r.aJ:Int),.int .u32 (r.nr:Int)],.vs (RL w) (.own (z+9)))=of.map vO:=CV hb
    have e2:(of.map vO).set j (.agg [.int .u32 (r.aJ:Int),.int .u32 (r.nr:Int)],.vs (RL (w++[r])) (.own (z+9)))=(of.set j ((r.aJ,r.nr),w++[r],z)).map vO:=by rw[abA];rfl
    have O:((w.length+1)*40<=140737488355328)=True:=af8;simp(disch:=omega)[D5,D4,F6,sV,zj,KY,ZS,A,U,gz,sz,y6,Oo,F,e2,hb,O,ZZ,Z0];refine M (of.set j ((r.aJ,r.nr),w++[r],z)) dH ms (Z.set z (some (.zone (w.length+1)))++[some (.cells r.cs),some (.cells [.int .u32 (r.aJ:Int),.int .u32 (r.nr:Int)]),none]) _ _ ?_ ?_ ?_
    .rw[eT,<-sz];exact(b.more (R:=[some (.cells r.cs),some (.cells [.int .u32 (r.aJ:Int),.int .u32 (r.nr:Int)]),none]) (λn=>by simp[az.cl,ZT,a_,V.cl])).ZM E
    .rw[abA];rfl
    .simp(disch:=omega)[au,fL,bF,-aab]
   .have y6:=zCx X;have NC:(Z.length+2<=Z.length)=False:=af9;have Oq:(Z.length+2<=Z.length+1)=False:=af9;have RU:(Z.length+3<=Z.length)=False:=af9;have Z2:(Z.length+3<=Z.length+1)=False:=af9
    have vP:(of.map vO++[(V.agg [.int .u32 (r.aJ:Int),.int .u32 (r.nr:Int)],V.vs [] .full)])[of.length]?=some (V.agg [.int .u32 (r.aJ:Int),.int .u32 (r.nr:Int)],V.vs [] .full):=by rw[aal ir];simp
    have H:∀v,(of.map vO++[(V.agg [.int .u32 (r.aJ:Int),.int .u32 (r.nr:Int)],V.vs [] .full)]).set of.length (V.agg [.int .u32 (r.aJ:Int),.int .u32 (r.nr:Int)],v)=of.map vO++[(V.agg [.int .u32 (r.aJ:Int),.int .u32 (r.nr:Int)],v)]:=λv=>by rw[aas _ _ ir];simp
    by_cases zF:r.aJ∈dH.map (·.1)
    .obtain⟨e,d,B⟩:=aag.1 zF;obtain⟨j,E⟩:=aaO d;obtain⟨ea,I,z⟩:=e;simp only at B;subst B;have mB:=zDt (by rw[b.nk];exact Oj _) E;have Z3:=b.nv _ d;simp only at Z3
     have Z4:((I.length:Int)==0)=false:=by
      have:r.aJ∈fH (p.rules.take i):=by rw[<-b.nk];exact zF
      have:=aba.2 (SG this);rw[<-Z3] at this;exact aL an
     have hF:I.length<=64:=by
      have h1:=Oe (((p.rules.take i).filter λx=>decide (x.aJ=r.aJ)).map (·.nr)) []
      have h2:=abl (λx:Ru=>decide (x.aJ=r.aJ)) (p.rules.take i);have h3:=abp i p.rules;simp only[abC,abB,abc] at h1
      have:I.length<=((p.rules.take i).filter λx=>decide (x.aJ=r.aJ)).length:=by rw[Z3];exact h1
      omega
     have hz:=b.nz _ d;simp only at hz;have N:=b.pI d;simp only at N;have gz:∀R:ae,(Z++R)[z]?=some (some (.zone I.length)):=λR=>SL hz;have sz:∀(R:ae) (x:Option az),(Z++R).set z x=Z.set z x++R:=λR x=>aa9 _ _ N
     have hc:∀(x:Option az) (R:ae) (k:Nat),(Z.set z x++R)[Z.length+k]?=R[k]?:=λx R k=>by rw[aal ir,abn];congr 1;omega
     have Z5:∀(x:Option az) (R:ae),(Z.set z x++R)[Z.length]?=R[0]?:=λx R=>hc x R 0
     have ht:∀(y:Option az) (R:ae) (k:Nat) (x:Option az),(Z.set z y++R).set (Z.length+k) x=Z.set z y++R.set k x:=λy R k x=>by rw[aas _ _ ir,abn];congr 2;omega
     have O:((I.length+1)*4<=140737488355328)=True:=af8
     have e3:(dH.map vN).set j (.int .u32 (r.aJ:Int),.vs (ah .u32 (I++[r.nr])) (.own (z+9)))=(dH.set j (r.aJ,I++[r.nr],z)).map vN:=by rw[abA];rfl
     simp(disch:=omega)[D5,D4,IH,II,F6,sV,zj,KY,ZS,zDs,A,U,gz,sz,hc,Z5,ht,y6,mB,Z4,vP,H,e3,O,NC,Oq,RU,Z2]
     have D8:∀q∈dH.map (·.2.2)++of.map (·.2.2),q<Z.length:=by
      intro q C
      rcases aai.1 C with C|C
      .obtain⟨e,d,rfl⟩:=aag.1 C;exact b.pI d
      .obtain⟨e,d,rfl⟩:=aag.1 C;exact b.pH d
     refine M (of++[((r.aJ,r.nr),[r],Z.length+3)]) (dH.set j (r.aJ,I++[r.nr],z)) ms (Z.set z (some (.zone (I.length+1)))++[some (.cells r.cs),some (.cells [.int .u32 (r.aJ:Int),.int .u32 (r.nr:Int)]),none,some (.zone 1)]) _ _ ?_ ?_ ?_
     .rw[eT,<-sz];exact(b.more (R:=[some (.cells r.cs),some (.cells [.int .u32 (r.aJ:Int),.int .u32 (r.nr:Int)]),none,some (.zone 1)]) (λn=>by simp[az.cl,ZT,a_,V.cl])).ZN X E (by rw[A];rfl) (λh=>by have:=D8 _ h;omega)
     .rw[abA,aam];rfl
     .simp(disch:=omega)[au,fL,bF,-aab]
    .have mB:=zCw zF
     have hG:ms.length<=64:=by have h1:=Z6 (p.rules.take i);have h3:=abp i p.rules;rw[b.sU];omega
     have O:((ms.length+1)*4<=140737488355328)=True:=af8;have hu:(Z.length+4<=Z.length)=False:=af9;have Z7:(Z.length+4<=Z.length+1)=False:=af9;simp(disch:=omega)[D5,D4,IH,II,ZR,F6,sV,zj,KY,ZS,zDs,zKQ,A,U,sk,y6,mB,vP,H,O,NC,Oq,RU,hu,Z7]
     have D8:∀q∈dH.map (·.2.2)++of.map (·.2.2),q<Z.length:=by
      intro q C
      rcases aai.1 C with C|C
      .obtain⟨e,d,rfl⟩:=aag.1 C;exact b.pI d
      .obtain⟨e,d,rfl⟩:=aag.1 C;exact b.pH d
     refine M (of++[((r.aJ,r.nr),[r],Z.length+4)]) (dH++[(r.aJ,[r.nr],Z.length+3)]) (ms++[r.aJ]) (Z++[some (.cells r.cs),some (.cells [.int .u32 (r.aJ:Int),.int .u32 (r.nr:Int)]),none,some (.zone 1),some (.zone 1)]) _ _ ?_ ?_ ?_
     .rw[eT];exact(b.more (R:=[some (.cells r.cs),some (.cells [.int .u32 (r.aJ:Int),.int .u32 (r.nr:Int)]),none,some (.zone 1),some (.zone 1)]) (λn=>by simp[az.cl,ZT,a_,V.cl])).ZO zF (by rw[A];rfl) (by rw[A];rfl) (λh=>by have:=D8 _ h;omega) (λh=>by have:=D8 _ h;omega) an
     .rw[aam,aam,aat];rfl
     .simp(disch:=omega)[au,fL,bF,-aab]
  .have X:i=p.rules.length:=an
   subst X;rw[aau] at b;have zI:=(fz [] (λ_=>rfl)).self;simp only[aaW,sV] at zI;simp(disch:=omega)[sV,F6];have pv:=zrm hl jU;unfold K0 at pv;have H:ms=fH p.rules:=b.sU
   have hI:ms.length<=64:=by have:=Z6 p.rules;rw[<-H] at this;omega
   obtain⟨S,hS⟩:∃S:Nat->List af×List (Nat×Nat),∀k,S k=kK p.rules 1 (ms.take k) g:=⟨_,λ_=>rfl⟩
   have DZ:S 0=(g,[]):=by rw[hS];rfl
   have zK:S ms.length=kK p.rules 1 (fH p.rules) g:=by rw[hS,aau,H]
   have Sg:1<=1/\1<=g.length:=⟨aaF _,an⟩
   have hh:∀k,Came g ((S k).1,1) (Bp p.rules (ms.take k))/\o8 (S k).1 (S k).2/\(S k).2.map (·.1)=ms.take k:=λk=>by
    rw[hS];exact SN K.1 (λa ha=>by rw[H] at ha;exact aaK ha) Sg
   have Ot:∀(c':List af) (r:ae),(∀n,r.map (aaq (az.cl n))=r)->gV (LH p c' (of.map vO) (dH.map vN) ms.length (Z++r)):=λc' r t=>ZU (b.more t).cz (λe d=>(b.more t).pH d) (λe d=>(b.more t).pI d);have Z8:∀(c':List af) (r:ae),(∀n,r.map (aaq (az.cl n))=r)->nu (LH p c' (of.map vO) (dH.map vN) ms.length (Z++r)) 1 c' .no:=λc' r t=>⟨rfl,.inl rfl,Ot c' r t⟩;have dT:∀(c' c2:List af) (D:ae),dJ (LH p c' (of.map vO) (dH.map vN) ms.length D) 1 c2=LH p c2 (of.map vO) (dH.map vN) ms.length D:=λc' c2 D=>rfl
   have A:∀(R:ae) (k:Nat),(Z++R)[Z.length+k]?=R[k]?:=λR k=>by rw[aal an];congr 1;omega
   have U:∀(R:ae),(Z++R)[Z.length]?=R[0]?:=λR=>A R 0
   have Bl:∀(R:ae) (x:Option az),(Z++R).set Z.length x=Z++R.set 0 x:=λR x=>by rw[aas _ _ an,ab7]
   have SO:∀(c':List af) (k:Nat) (r:ae),ak (Z.length+1+9) (LH p c' (of.map vO) (dH.map vN) ms.length (Z++some (.zone k)::r))=LH p c' (of.map vO) (dH.map vN) ms.length (Z++[some (.zone k)]):=λc' k r=>by
    have:=(Ot c' [some (.zone k)] (λ_=>rfl)).back r;rw[F6,sV,aat,aa3] at this;exact this
   refine aN ms.length (λk=>[(4,.ptr 2 0),(5,.ptr 3 0),(12,.fn 425 [.ptr 7 0,.ptr 2 0,.ptr 5 0,.ptr 3 0]),(13,.vs (EL (S k).2) (.own (Z.length+9))),(79,.vs (ah .u32 ms) (.own 8)),(80,.int .i64 ms.length),(81,.int .i64 k)])
    (λk=>LH p (S k).1 (of.map vO) (dH.map vN) ms.length (Z++[some (.zone k)])) (λ_=>True) ?_ ?_
   .simp(disch:=omega)[au,fL,sV,DZ,SO,show EL []=[] from rfl]
   intro k hk _
   by_cases Y:k<ms.length
   .obtain⟨a,hw⟩:=ax (ms[k])
    have oG:ms[k]?=some a:=by rw[aaf Y,hw]
    have zh:(ah .u32 ms)[k]?=some [.int .u32 (a:Int)]:=by simp[oG]
    have xS:(ah .u32 ms)[k]'(by simpa using Y)=[.int .u32 (a:Int)]:=by rw[aaf (by simpa using Y)] at zh;exact aa2.inj zh
    have ho:a∈fH p.rules:=by rw[<-H];exact aah oG
    have P:S (k+1)=(xu p.rules 1 a (S k).1,(S k).2++[(a,(xu p.rules 1 a (S k).1).length)]):=by rw[hS,hS,aay,oG];exact zpq _ _ _ _ _
    obtain⟨j1,j2,j3⟩:=hh k
    have ud:(S k).2.length=k:=by rw[<-abC (f:=(·.1)),j3,aaA];omega
    have JC:=ZB (D0 p.rules) ms k a oG;rw[show eN (D0 p.rules) ms=Bp p.rules (fH p.rules) by rw[H];rfl] at JC;have gj:=j1.grown.len;obtain⟨⟨c1,ZI⟩,rD⟩:=ax (S k);rw[<-rD] at P gj j1 ud |-;simp only[Bp] at P gj ud pv JC
    have hy:∃j z:Nat,dH[j]?=some (a,ia p.rules a,z):=by
     have:a∈dH.map (·.1):=by rw[b.nk];exact ho
     obtain⟨e,d,B⟩:=aag.1 this;obtain⟨j,E⟩:=aaO d;have hv:=b.nv e d;obtain⟨F,e2,e3⟩:=e;simp only at B hv;subst B;exact⟨j,e3,by rw[E,hv]⟩
    obtain⟨jn,zn,yg⟩:=hy;have Z9:=b.pI (aah yg);simp only at Z9
    have J_:zz3 (dH.map vN) a (ia p.rules a) (LH p c1 (of.map vO) (dH.map vN) ms.length (Z++[some (.zone k),none])).length :=
     ⟨jn,.own (zn+9),zDt (by rw[b.nk];exact Oj _) yg,λm hm=>by rw[sV] at hm;simp at hm;simp[Tk.cl];omega⟩
    have iZ:∀n∈ia p.rules a,zz4 (of.map vO) a n (iP p.rules a n) (LH p c1 (of.map vO) (dH.map vN) ms.length (Z++[some (.zone k),none])).length:=λn hn=>by
     have:(a,n)∈of.map (·.1):=(b.om _).2 (by obtain⟨x,hx,F,e2⟩:=SJ.1 hn;exact⟨x,hx,abr F e2⟩)
     obtain⟨e,d,B⟩:=aag.1 this;obtain⟨j,E⟩:=aaO d;have hv:=b.ov e d;have N:=b.pH d;obtain⟨F,e2,e3⟩:=e;simp only at B hv N;subst B;simp only at hv;subst hv;exact⟨j,.own (e3+9),zDu b.ok E,λm hm=>by rw[sV] at hm;simp at hm;simp[Tk.cl];omega⟩
    have wb:=zz5 (G:=G) (rs:=p.rules) (a:=a) (o:=1) (Z8 c1 [some (.zone k),none] (λ_=>rfl)) (pn:=7) (pm:=2) (po:=5) (px:=3) (mn:=6) (mo:=4) II Bn D5 Ol IH D4 J_ iZ K.1 ho an ⟨aaF _,an⟩ an;rw[dT] at wb;obtain⟨r1,H2,hB,mF,Z_⟩:=wb;have O:((k+1)*16<=140737488355328)=True:=af8;have dV:=zxf ZI (a,(xu p.rules 1 a c1).length);simp only at dV;simp(disch:=omega)[bC,zh,F6,sV]
    refine kF (H1:=H2) (by simpa using hB) (λh=>by simp at h) ?_;rw[mF,Z_];simp(disch:=omega)[SH,zj,KY,U,Bl,ud,O,dV,au,fL,bF,P,SO,Y,-aab]
   .have B3:k=ms.length:=an
    subst B3;rw[zK]
    have IK:ms.length=(kK p.rules 1 (fH p.rules) g).2.length:=by obtain⟨_,_,h3⟩:=hh ms.length;rw[zK,aau] at h3;have:=congrArg acb h3;simpa using this.symm
    obtain⟨q1,q2,q3⟩:=SN (rs:=p.rules) (o:=1) K.1 (l:=fH p.rules) (c:=g) (λ_ h=>h) Sg
    have K1:∀e∈(kK p.rules 1 (fH p.rules) g).2,e.1<4294967296:=by
     intro e d
     have:e.1∈fH p.rules:=by rw[<-q3];exact aag.2 ⟨e,d,rfl⟩
     obtain⟨r,t,h⟩:=SI.1 this;rw[<-h];exact(K.1 r t).2.1
    have hA:qM p=if(kK p.rules 1 (fH p.rules) g).2=[] then(d_ (kK p.rules 1 (fH p.rules) g).2 ((kK p.rules 1 (fH p.rules) g).1,1)).1 else bY (d_ (kK p.rules 1 (fH p.rules) g).2 ((kK p.rules 1 (fH p.rules) g).1,1)).1 32 4:=by rw[Rr];rfl
    rw[hA];have gq:=q1.grown.len
    have hJ:(fH p.rules).length=ms.length:=by rw[H]
    obtain⟨⟨J,u⟩,Ln⟩:=ax (kK p.rules 1 (fH p.rules) g);rw[<-Ln] at q1 q2 q3 K1 gq IK |-;have Q:=q1.nA;simp only at gq IK q2 K1 Q pv |-;obtain⟨T,hT⟩:∃T:Nat->tT,∀k,T k=d_ (u.take k) (J,1):=⟨_,λ_=>rfl⟩
    have pd:T 0=(J,1):=by rw[hT];rfl
    have ku:T u.length=d_ u (J,1):=by rw[hT,aau]
    have hC:∀k,Came J (T k) (3*u.length):=λk=>by
     rw[hT];exact(SP (s:=(J,1)) (λe d=>q2 e (aaK d)) (λe d=>K1 e (aaK d)) Q).mono (by rw[aaA];omega)
    have gI:u.length=ms.length:=IK.symm;simp(disch:=omega)[sV,Ol,gI];have hM:=λc'=>Z8 c' [some (.zone ms.length)] (λ_=>rfl)
    refine aN ms.length (λk=>[(4,.ptr 2 0),(13,.vs (EL u) (.own (Z.length+9))),(16,.int .i64 (T k).2),(95,.vs (EL u) (.own (Z.length+9))),(96,.int .i64 ms.length),(97,.int .i64 k)])
     (λk=>LH p (T k).1 (of.map vO) (dH.map vN) ms.length (Z++[some (.zone ms.length)])) (λ_=>True) ?_ ?_
    .simp(disch:=omega)[au,fL,sV,pd,SO]
    intro k hk _
    by_cases Y:k<ms.length
    .have D9:k<u.length:=an
     obtain⟨x,sH⟩:=ax (u[k]'D9)
     have zE:u[k]?=some x:=by rw[aaf D9,sH]
     have L:=zAD zE
     have xS:(EL u)[k]'(by simpa using D9)=[.int .u32 (x.1:Int),.int .i64 (x.2:Int)]:=by rw[aaf (by simpa using D9)] at L;exact aa2.inj L
     have iw:T (k+1)=(ib (T k).1 21 x.1 x.2 (T k).2,(ib (T k).1 21 x.1 x.2 (T k).2).length):=by rw[hT,hT,aay,zE];exact zpr _ _ _
     have tc:=SP (l:=u.take k) (s:=(J,1)) (λe d=>q2 e (aaK d)) (λe d=>K1 e (aaK d)) Q;rw[<-hT] at tc;have gt:=tc.grown.len;have lt:=tc.nA;rw[aaA] at gt;have lx:=q2 x (aah zE);simp only at lx gt;obtain⟨⟨c1,o1⟩,rD⟩:=ax (T k);rw[<-rD] at iw gt lt |-;simp only at gt lt iw;have wb:=IM (G:=G) (Z8 c1 [some (.zone ms.length),some (.cells [.int .u32 (x.1:Int),.int .i64 (x.2:Int)])] (λn=>rfl)) 21 x.1 x.2 o1 (.inl rfl) ⟨lx.1,an⟩ lt an
     rw[dT] at wb;simp(disch:=omega)[bC,L,F6,sV,zj,KY,A,Bn];refine cN wb ?_;simp(disch:=omega)[au,fL,bF,iw,SO,Y,-aab]
    .have hD:k=ms.length:=an
     subst hD
     have uO:T ms.length=d_ u (J,1):=by rw[<-gI];exact ku
     by_cases ig:u=[]
     .have NA:ms.length=0:=by rw[<-gI,ig];rfl
      have Ou:(0<ms.length)=False:=af9;rw[if_pos ig];rw[uO];generalize d_ u (J,1)=s2;simp(disch:=omega)[sV,gI,Ou,Ok,Bn,FL]
     .have NA:ms.length≠0:=by rw[<-gI];exact λh=>ig (abd.1 h)
      have Ou:((0:Int)<(ms.length:Int))=True:=af8;have tc:=(hC ms.length).grown.len;rw[uO] at tc;rw[if_neg ig];rw[uO];generalize d_ u (J,1)=s2 at *;have wa:=KU (G:=G) (hM s2.1) 32 4 (.inr (.inr ⟨rfl,aga,aga⟩)) an;rw[dT] at wa;simp(disch:=omega)[fL,sV,gI,Bn];refine cN wa ?_;simp(disch:=omega)[sV,Ok,Bn,FL]
def tU:Nat->Nat->List Nat
 | 0,n=>[n%16]
 | m+1,n=>if n<16 then [n%16] else tU m (n/16)++[n%16]
def SQ:∀(m n:Nat),n<16^(m+1)->(∀d∈tU m n,d<16)/\1<=(tU m n).length/\(tU m n).length<=m+1/\((tU m n).head?=some 0->(tU m n).length=1/\n=0)/\ic (tU m n)=n
 | 0,n,h=>by
  have:n%16=n:=abU (by simpa using h);simp[tU,this,ic]
  simpa using h
 | m+1,n,h=>by
  unfold tU;split
  .rename_i a;have:n%16=n:=abU a;simp[this,ic,a]
  .rename_i a;obtain⟨e,b,i,f,g⟩:=SQ m (n/16) (by rw[ab9] at h;omega);refine⟨λd hd=>?_,ir,by simp;omega,λc=>?_,by rw[F7,g];omega⟩
   .rcases aai.1 hd with hd|hd
    .exact e d hd
    .simp at hd;omega
   .have:(tU m (n/16)).head?=some 0:=by
     cases hd:tU m (n/16) with
     | nil=>rw[hd] at b;simp at b
     | cons x l=>rw[hd] at c;simpa using c
    have:=(f this).2;omega
def zGc{d:Nat}(h:d<16):ke d=aa0 (if 9<d then 87+d else 48+d):=by
 unfold ke
 congr 1
 split<;>split<;>omega
def zq8[dB G]:∀(m n:Nat),m<=100->n<16^(m+1)->n<18446744073709551616->FP G 430 [.int .u64 n] (.str ((tU m n).map ke))
 | m,n,z,k,w=>by
  obtain⟨d,hd⟩:=ax (n%16)
  have x:d<16:=an
  have g:iu (n:Int) 16=((d:Nat):Int):=by rw[hd];exact zz (b:=16)
  have q1:gH .u64 (n:Int) 16=((n/16:Nat):Int):=LJ (b:=16) w;have i:aB .u64 48 (d:Int)=((48+d:Nat):Int):=IntWalk.u64_in _ ⟨an,an⟩;have l:aB .u64 87 (d:Int)=((87+d:Nat):Int):=IntWalk.u64_in _ ⟨an,an⟩;have j:=zAg (a:=48+d) an;have o:=zAg (a:=87+d) an;have p:=zGc x;have e:=(SQ m n k).2.2.1;have A:∀s:List UInt8,s.length<=101->(s.length<=9223372036854775806)=True:=λs h=>eq_true an
  refine bA dB.aeJ (aad rfl) ?_
  by_cases q:n<16
  .have e:((n:Int)<16)=True:=af8
   have r:tU m n=[d]:=by cases m<;>simp[tU,q,hd]
   rw[r,ab4,ab_,p]
   by_cases f:9<d
   .have c:(9<(d:Int))=True:=af8;simp[g,i,l,j,o,c,f,e,-aab]
   .have c:(9<(d:Int))=False:=af9;simp[g,i,j,c,f,e,-aab]
  .cases m with
   | zero=>simp at k;omega
   | succ m =>
   have e:((n:Int)<16)=False:=af9
   have t:n/16<16^(m+1):=by rw[ab9] at k;omega
   have u:=zq8 m (n/16) an t an;have r:=(SQ m (n/16) t).2.2.1;have v:((tU m (n/16)).length<=9223372036854775806)=True:=af8
   have y:tU (m+1) n=tU m (n/16)++[d]:=by simp[tU,q,hd]
   rw[y,aam,ab4,ab_,p]
   by_cases f:9<d
   .have c:(9<(d:Int))=True:=af8;simp[g,q1,i,l,j,o,c,f,e,-aab,-abV];refine aw u ?_;simp[v]
   .have c:(9<(d:Int))=False:=af9;simp[g,q1,i,j,c,f,e,-aab,-abV];refine aw u ?_;simp[v]
def K2[dB G](n:Nat)(a:n<18446744073709551616):FP G 431 [.int .u64 n] (.str (br n)):=by have h:=zq8 (G:=G) 15 n aga (by simpa using a) a;obtain⟨c,d,g,e,f⟩:=SQ 15 n (by simpa using a);have b:=(ztp c d an (λh=>(e h).1)).2;rw[f] at b;rw[b];refine bA dB.aeK (aad rfl) ?_;simp;refine aw h ?_;simp[show(2+(tU 15 n).length<=9223372036854775807)=True from eq_true an]
def ju(v:Nat):List UInt8:=if dU v then iG v else []
def zmP[dB G][jO G](v:Nat)(j:v<4294967296):FP G 432 [.int .u32 v] (.str (ju v)):=by
 refine bA jO.aeL (aad rfl) ?_
 by_cases q:327680<=v/\v<=331775
 .have c:(327680<=(v:Int))=True:=af8;have l:((v:Int)<=331775)=True:=af8;have m:=K2 (G:=G) (v-327680) an;have r:=IP (v-327680)
  have n:cL .u32 (v:Int) 327680=((v-327680:Nat):Int):=by rw[Ov j];omega
  have o:eO .u64 ((v-327680:Nat):Int)=((v-327680:Nat):Int):=IntWalk.u64_in _ ⟨an,an⟩
  have b:ju v=kr++br (v-327680):=by
   have d:dU v=true:=by simp[dU];omega
   have:=FW d;rw[ju,if_pos d];have a:=zqi (k:=v-327680) an;rw[show 327680+(v-327680)=v by omega] at a;exact(Bm a).2
  rw[b];generalize br (v-327680)=T at *;generalize v-327680=k at *;simp[c,l,n,o];refine aw m ?_;simp[kr,show(6+T.length<=9223372036854775807)=True from eq_true an]
 .have c:(decide (327680<=(v:Int))&&decide ((v:Int)<=331775))=false:=by simp only[Bool.and_eq_false_iff,decide_eq_false_iff_not];omega
  by_cases a:v=0\/v=196608\/v=2147221504\/v=2147418112
  .rcases a with rfl|rfl|rfl|rfl
   .rw[show ju 0=[107,105,108,108] by decide];simp
   .rw[show ju 196608=[116,114,97,112] by decide];simp
   .rw[show ju 2147221504=[108,111,103] by decide];simp
   .rw[show ju 2147418112=[97,108,108,111,119] by decide];simp
  .have b:ju v=[]:=by
    have:dU v=false:=by simp[dU];omega
    rw[ju,this];rfl
   rw[b]
   have e:((v:Int)==0)=false:=by simp;omega
   have f:((v:Int)==196608)=false:=by simp;omega
   have g:((v:Int)==2147221504)=false:=by simp;omega
   have h:((v:Int)==2147418112)=false:=by simp;omega
   by_cases i:(327680:Int)<=(v:Int)
   .have p:((v:Int)<=331775)=False:=af9;simp[i,p,e,f,g,h]
   .simp[i,e,f,g,h]
def cf(l:List (List UInt8)):List (List V):=l.map λw=>[.str w]
def zym(a:List (List UInt8))(w:List UInt8):cf a++[[.str w]]=cf (a++[w]):=by simp[cf]
@[simp] theorem zGd (a:List (List UInt8)):(cf a).length=a.length:=by simp[cf]
theorem Ct{l:List (List UInt8)}{i:Nat}{x:List UInt8}(h:l[i]?=some x):(cf l)[i]?=some [.str x]:=by simp[cf,h]
def zvf(a:List (List UInt8)):(∀f∈cf a,f.length=1)=True:=by simp only[eq_iff_iff,iff_true];intro f b;simp only[cf,aag] at b;obtain⟨_,_,rfl⟩:=b;rfl
def l_(m:UInt8):List (List UInt8)×List UInt8->List UInt8->List (List UInt8)×List UInt8
 | q,[]=>q
 | q,b::s=>if b=m then l_ m (q.1++[q.2],[]) s else l_ m (q.1,q.2++[b]) s
def zp1(m:UInt8):∀(s:List UInt8) (q:List (List UInt8)×List UInt8),(l_ m q s).1++[(l_ m q s).2]=q.1++(match gG m s with|[]=>[]|w::r=>(q.2++w)::r)
 | [],q=>by simp[l_,gG]
 | b::s,q=>by
  have c:=Cq m s;unfold l_ gG
  by_cases h:b=m
  .rw[if_pos h,if_pos h,zp1 m s]
   cases a:gG m s with
   | nil=>exact absurd a c
   | cons w r=>simp
  .rw[if_neg h,if_neg h,zp1 m s]
   cases a:gG m s with
   | nil=>exact absurd a c
   | cons w r=>simp
def zvg(m:UInt8):∀(a b:List UInt8) (q:List (List UInt8)×List UInt8),l_ m q (a++b)=l_ m (l_ m q a) b
 | [],b,q=>rfl
 | x::a,b,q=>by
  simp only[aao,l_]
  split<;>exact zvg m a b _
def zp2(m:UInt8):∀(s:List UInt8) (q:List (List UInt8)×List UInt8),(l_ m q s).1.length<=q.1.length+s.length/\(l_ m q s).2.length<=q.2.length+s.length
 | [],q=>by simp[l_]
 | b::s,q=>by
  unfold l_;split
  .have:=zp2 m s (q.1++[q.2],[]);simp at this |-;omega
  .have:=zp2 m s (q.1,q.2++[b]);simp at this |-;omega
def zvh[jC G](s:List UInt8)(m:UInt8)(E:s.length<=1000000):FP G 486 [.str s,.int .u8 (m.toNat:Nat)] (.vs (cf (gG m s)) .no):=by
 refine bA jC.aeZ (aad rfl) ?_;obtain⟨C,c⟩:∃C:Nat->List (List UInt8)×List UInt8,∀i,C i=l_ m ([],[]) (s.take i):=⟨_,λ_=>rfl⟩
 have d:∀i,(C i).1.length<=1000000/\(C i).2.length<=1000000:=λi=>by
  have:=zp2 m (s.take i) ([],[]);rw[<-c] at this;simp at this;omega
 have q:∀i b,s[i]?=some b->C (i+1)=if b=m then((C i).1++[(C i).2],[]) else((C i).1,(C i).2++[b]):=by intro i b e;rw[c,c,aay,e,zvg];simp only[ab6,l_]
 have t:gG m s=(C s.length).1++[(C s.length).2]:=by
  rw[c,aau,zp1];have u:=Cq m s
  cases v:gG m s with
  | nil=>exact absurd v u
  | cons w r=>simp
 have j:C 0=([],[]):=by rw[c];rfl
 rw[t];simp;refine aN s.length (λi=>[(0,.str s),(1,.int .u8 (m.toNat:Nat)),(5,.vs (cf (C i).1) (.own 0)),(6,.str (C i).2),(7,.int .i64 i)]) (λi=>[some (.zone (C i).1.length)]) (λ_=>True) ?_ ?_
 .simp[au,ak,j,cf]
 intro i hi _;obtain⟨F,H⟩:=d i
 have l:((C i).1.length+1)*16<=140737488355328:=an
 have n:=zym (C i).1 (C i).2;have o:=zvf (C i).1
 rcases aaj hi with x|f
 .subst x;simp[l,o,n]
 .obtain⟨b,e⟩:∃b,s[i]?=some b:=⟨_,aaf f⟩;obtain⟨_,k⟩:=aae.1 e;have a:=q i b e
  have p:aB .i64 (i:Int) 1=((i+1:Nat):Int):=by rw[eB]<;>omega
  by_cases g:b=m
  .rw[if_pos g] at a;subst g;simp(disch:=omega)[f,k,l,o,n,a,p,au,ak,-aab]
  .rw[if_neg g] at a;have y:((b.toNat:Int)==(m.toNat:Int))=false:=Ir λh=>g (abm.1 h);have z:((i:Int)<=((i+1:Nat):Int))=True:=af8;have A:(((i+1:Nat):Int)<=(s.length:Int))=True:=af8
   have B:(s.drop i).take 1=[b]:=by rw[abb f,k];rfl
   have D:((C i).2.length+1<=9223372036854775807)=True:=af8;simp(disch:=omega)[f,k,y,a,p,z,A,B,D,au,ak,-aab]
def zz7(x:Int):∃v:Nat,v<18446744073709551616/\IntKind.u64.wrap x=(v:Int):=by refine⟨(IntKind.u64.wrap x).toNat,?_⟩;simp only[IntKind.wrap,show IntKind.u64.signed=false from rfl];simp[IntKind.bits];omega
def zob[g7 G][dB G](s:List UInt8)(hl:s.length<=1000000):FP G 487 [.str s] (.bf [.int .u64 ((dG s).getD 0:Nat),.bool (dG s).isSome]):=by
 refine bA g7.ae0 (aad rfl) ?_
 cases F:dG s with
 | some n =>
  obtain⟨H,I⟩:=zP F;obtain⟨ds,o,p,J,h4,h5,h6⟩:=IQ n H;rw[I] at o;have j:=K2 (G:=G) n H;rw[I] at j;obtain⟨N,R⟩:=ax ds.length
  have l:s.length=N+2:=by rw[o];simp;omega
  have e:(((N:Int)+2)<3)=False:=af9;have m:(18<(N:Int)+2)=False:=af9;obtain⟨a,f⟩:∃a:Nat->Nat,∀i,a i=ic (ds.take i):=⟨_,λ_=>rfl⟩
  have r:a N=n:=by rw[f,R,aau,J]
  have T:a 0=0:=by rw[f];rfl
  simp(disch:=omega)[l,e,m];refine aN N (λk=>[(0,.str s),(4,.int .u64 (a k:Nat)),(5,.int .i64 (k+2:Nat))]) (λ_=>[]) (λ_=>True) ?_ ?_
  .simp[au,ak,T]
  intro k U _
  rcases aaj U with V|c
  .subst V;have W:(((k+2:Nat):Int)<((k+2:Nat):Int))=False:=af9;simp(disch:=omega)[l,W,r,-aab];refine aw j ?_;simp
  .have t:k<ds.length:=an
   obtain⟨d,hd⟩:=ax (ds[k])
   have u:ds[k]?=some d:=by rw[aaf t,hd]
   have X:d<16:=p d (aah u)
   have Y:s[k+2]?=some (ke d):=by rw[o,aal ir];simp[u]
   obtain⟨Hd,K⟩:=aae.1 Y
   have Z:a (k+1)=16*a k+d:=by rw[f,f,aay,u];exact F7 _ _
   have CY:a k*16+16<=18446744073709551616:=by
    have:=zsi k (ds.take k) (by rw[aaA];omega) (λy hy=>p y (aaK hy));rw[<-f] at this;have p:16^k<=16^15:=Nat.pow_le_pow_right aga an
    have J:(16:Nat)^15=1152921504606846976:=by decide
    omega
   have L:(((k+2:Nat):Int)<((N+2:Nat):Int))=True:=af8
   have g:aB .i64 ((k+2:Nat):Int) 1=((k+1+2:Nat):Int):=by rw[eB]<;>omega
   have M:da .u64 (a k:Int) 16=((a k*16:Nat):Int):=by unfold da;rw[show(a k:Int)*16=((a k*16:Nat):Int) by omega];exact IntWalk.u64_in _ ⟨an,an⟩
   have O:aB .u64 ((a k*16:Nat):Int) (d:Int)=(a (k+1):Int):=by unfold aB;rw[Z,show((a k*16:Nat):Int)+(d:Int)=((16*a k+d:Nat):Int) by omega];exact IntWalk.u64_in _ ⟨an,an⟩
   by_cases w:d<10
   .have x:=zAu w;have z:eO .u64 ((48+d:Nat):Int)=((48+d:Nat):Int):=IntWalk.u64_in _ ⟨an,an⟩
    have A:cL .u64 ((48+d:Nat):Int) 48=(d:Int):=by unfold cL;rw[show((48+d:Nat):Int)-48=(d:Int) by omega];exact IntWalk.u64_in _ ⟨an,an⟩
    have B:((97:Int)<=((48+d:Nat):Int))=False:=af9;simp(disch:=omega)[l,L,K,x,z,A,B,M,O,g,au,c,-aab,-abF]
   .have x:=zAv X an;have z:eO .u64 ((87+d:Nat):Int)=((87+d:Nat):Int):=IntWalk.u64_in _ ⟨an,an⟩
    have A:cL .u64 ((87+d:Nat):Int) 87=(d:Int):=by unfold cL;rw[show((87+d:Nat):Int)-87=(d:Int) by omega];exact IntWalk.u64_in _ ⟨an,an⟩
    have B:((97:Int)<=((87+d:Nat):Int))=True:=af8
    simp(disch:=omega)[l,L,K,x,z,A,B,M,O,g,au,c,-aab,-abF]
 | none =>
  by_cases e:(s.length:Int)<3
  .simp[e]
  by_cases m:18<(s.length:Int)
  .simp[e,m]
  simp[e,m];refine wq (S:=Nat×Nat) (λq=>s.length-q.1) (λq=>[(0,.str s),(4,.int .u64 (q.2:Nat)),(5,.int .i64 (q.1:Nat))]) (λ_=>[]) (λq=>q.1<=s.length/\q.2<18446744073709551616) (2,0) ?_ ?_
  .refine⟨⟨by simp only;omega,aga⟩,?_,?_⟩<;>simp[au,ak]
  rintro⟨i,v⟩ ⟨p1,p2⟩;simp only at p1 p2 |-
  by_cases c:i<s.length
  .obtain⟨b,hb⟩:∃b,s[i]?=some b:=⟨_,aaf c⟩;obtain⟨_,P⟩:=aae.1 hb
   have g:aB .i64 (i:Int) 1=((i+1:Nat):Int):=by rw[eB]<;>omega
   by_cases Q:(97:Int)<=(b.toNat:Int)
   .simp[c,P,Q,g,-aab];obtain⟨C,D,E⟩:=zz7 (da .u64 (v:Int) 16+cL .u64 (eO .u64 (b.toNat:Int)) 87);exact⟨(i+1,C),by simp only;omega,⟨by simp only;omega,D⟩,by simp only[<-E];simp[au,aB],by simp[ak]⟩
   .simp[c,P,Q,g,-aab];obtain⟨C,D,E⟩:=zz7 (da .u64 (v:Int) 16+cL .u64 (eO .u64 (b.toNat:Int)) 48);exact⟨(i+1,C),by simp only;omega,⟨by simp only;omega,D⟩,by simp only[<-E];simp[au,aB],by simp[ak]⟩
  .have j:=K2 (G:=G) v p2
   have aC:(br v==s)=false:=by rw[beq_eq_false_iff_ne];exact λh=>Ox F v ⟨p2,h⟩
   simp[c];refine aw j ?_;simp[aC]
def NV(M:List (List UInt8×Int)):V:=.vs (cf (M.map (·.1))) .no
def KV(M:List (List UInt8×Int)):V:=.vs (M.map λp=>[.int .u32 p.2]) .no
def zsg{α:Type}(f:α->Bool):∀M:List α,∃N,N<=M.length/\(∀i p,i<N->M[i]?=some p->f p=false)/\(N<M.length->∃p,M[N]?=some p/\f p=true/\M.find? f=some p)/\(N=M.length->M.find? f=none)
 | []=>⟨0,aaF _,λi p h=>absurd h (aaI _),λh=>absurd h (aaI _),λ_=>rfl⟩
 | x::M=>by
  cases a:f x with
  | true=>exact⟨0,abG _,λi p h=>absurd h (aaI _),λ_=>⟨x,rfl,a,by simp[a]⟩,λh=>by simp at h⟩
  | false =>
   obtain⟨N,c,d,e,g⟩:=zsg f M;refine⟨N+1,by simpa using c,?_,?_,?_⟩
   .intro i p hi b
    cases i with
    | zero=>simp at b;subst b;exact a
    | succ i=>exact d i p an (by simpa using b)
   .intro h;obtain⟨p,j,k,l⟩:=e (by simpa using h);exact⟨p,by simpa using j,k,by simp[a,l]⟩
   .intro h;have:=g (by simpa using h);simp[a,this]
def zp3[ej G][dB G]{M:List (List UInt8×Int)}(f:iq M)(t:M.length<=100)(n:Nat)(u:n<4294967296):FP G 490 [NV M,KV M,.int .u32 n] (.str (cQ M n)):=by
 refine bA ej.ae3 (aad rfl) ?_;obtain⟨N,v,g,h,j⟩:=zsg (λp:List UInt8×Int=>p.2==(n:Int)) M;have k:eO .u64 (n:Int)=(n:Int):=IntWalk.u64_in _ ⟨an,an⟩;have l:=K2 (G:=G) n an;simp[NV,KV]
 refine aN N (λi=>[(0,.vs (cf (M.map (·.1))) .no),(1,.vs (M.map λp=>[.int .u32 p.2]) .no),(2,.int .u32 n),(7,.int .i64 i)]) (λ_=>[]) (λ_=>True) ?_ ?_
 .simp[au,ak]
 intro i hi _
 rcases aaj hi with m|a
 .subst m
  by_cases a:i<M.length
  .obtain⟨p,b,c,o⟩:=h a
   have d:cQ M n=p.1:=by
    have:o9 M n=p.1:=by simp[o9,o]
    rw[cQ,this,if_neg (f.cu p (aah b)).2.1]
   obtain⟨_,e⟩:=aae.1 b;rw[d];simp[a,e,c,cf]
  .have:i=M.length:=an
   subst this;have q:=j rfl
   have d:cQ M n=br n:=by simp[cQ,o9,q]
   rw[d];simp[k];refine aw l ?_;simp
 .obtain⟨p,b⟩:∃p,M[i]?=some p:=⟨_,aaf an⟩;have c:=g i p a b;obtain⟨r,e⟩:=aae.1 b
  have s:aB .i64 (i:Int) 1=((i+1:Nat):Int):=by rw[eB]<;>omega
  simp[r,e,c,s,au,ak,a,cf,-aab]
def zvi[ej G][dB G][g7 G]{M:List (List UInt8×Int)}(f:iq M)(x:M.length<=100)(s:List UInt8)(y:s.length<=1000000):FP G 491 [NV M,KV M,.str s] (.bf [.int .u32 ((oL M s).getD 0:Nat),.bool (oL M s).isSome]):=by
 refine bA ej.ae4 (aad rfl) ?_;obtain⟨N,F,z,A,t⟩:=zsg (λp:List UInt8×Int=>p.1==s) M;have b:=zob (G:=G) s y;have u:=λn d=>zp3 (G:=G) f x n d;simp only[NV,KV] at u;simp[NV,KV]
 refine aN N (λi=>[(0,.vs (cf (M.map (·.1))) .no),(1,.vs (M.map λp=>[.int .u32 p.2]) .no),(2,.str s),(8,.int .i64 i)]) (λ_=>[]) (λ_=>True) ?_ ?_
 .simp[au,ak]
 intro i hi _
 rcases aaj hi with c|e
 .subst c
  by_cases e:i<M.length
  .obtain⟨p,a,g,j⟩:=A e;rw[zqc j] at j;obtain⟨v,B,k⟩:=zts f j;obtain⟨_,l⟩:=aae.1 a
   have m:p.1=s:=by simpa using g
   simp[e,l,m,cf,k,B]
  .have:i=M.length:=an
   subst this;have k:=ztt f (t rfl);rw[k]
   cases d:dG s with
   | none =>
    rw[d] at b;simp;refine aw b ?_
    simp
   | some n =>
    rw[d] at b;have C:=(zP d).2
    by_cases o:n<4294967296
    .have a:(4294967295<(n:Int))=False:=af9;have q:eO .u32 (n:Int)=(n:Int):=IntWalk.u32_in _ ⟨an,an⟩;have w:=u n o
     by_cases c:o9 M n=[]
     .have r:cQ M n=s:=by rw[cQ,if_pos c,C]
      rw[r] at w;simp;refine aw b ?_;simp[a,q];refine aw w ?_;simp[q,o,c]
     .have r:(cQ M n==s)=false:=by rw[beq_eq_false_iff_ne];intro h;exact c (zlC f (t rfl) h).1
      simp;refine aw b ?_;simp[a,q];refine aw w ?_;simp[c,r]
    .have a:(4294967295<(n:Int))=True:=af8;simp;refine aw b ?_;simp[a,o]
 .obtain⟨p,a⟩:∃p,M[i]?=some p:=⟨_,aaf an⟩;have g:=z i p e a;obtain⟨D,l⟩:=aae.1 a
  have E:aB .i64 (i:Int) 1=((i+1:Nat):Int):=by rw[eB]<;>omega
  simp[D,l,g,E,au,ak,e,cf,-aab]
def zkv[ej G]:FP G 488 [] (.bf [NV pG,KV pG]):=by refine bA ej.ae1 (aad rfl) ?_;simp[NV,KV,pG,cf]
def zwj[ej G][dB G](a:Nat)(b:a<4294967296):FP G 492 [.int .u32 a] (.str (cQ pG a)):=by refine bA ej.ae5 (aad rfl) ?_;have w:=zp3 (G:=G) DS aga a b;have q:=zkv (G:=G);simp only[NV,KV] at w q;simp;refine aw q ?_;simp;refine aw w ?_;simp
def zq9[ej G][dB G][g7 G](s:List UInt8)(a:s.length<=1000000):FP G 493 [.str s] (.bf [.int .u32 ((oL pG s).getD 0:Nat),.bool (oL pG s).isSome]):=by refine bA ej.ae6 (aad rfl) ?_;have w:=zvi (G:=G) DS aga s a;have q:=zkv (G:=G);simp only[NV,KV] at w q;simp;refine aw q ?_;simp;refine aw w ?_;simp
def zk:List (List Int):=[[0,1,2,3,60,57,62,9],[3,4,5,6,1,2,37,90],[63,64,1000000,57,93,1000000,129,222],[3,4,5,6,1,2,37,1000000]]
def Bs:List (List UInt8):=[Cu,Cv,F8,Cw,Cx,F9,Cy,F_]
def ri(a i k:Nat):Option (List UInt8×Int):=if(pG.getD i ([],0)).2=(a:Int)/\(zk.getD i []).getD k 0≠1000000 then some (Bs.getD k [],(zk.getD i []).getD k 0) else none
def vz(a j:Nat):List (List UInt8×Int):=(ace j).filterMap λj=>ri a (j/8) (j%8)
def zz8(a i k:Nat)(d:k<8):vz a (8*i+k+1)=vz a (8*i+k)++(ri a i k).toList:=by
 have b:(8*i+k)/8=i:=an
 have c:(8*i+k)%8=k:=an
 unfold vz;rw[List.range_succ,List.filterMap_append,List.filterMap_cons,b,c]
 cases ri a i k<;>rfl
def zvj(a:Nat):vz a 32=oK a:=by
 by_cases b:a=3221225534
 .subst b;rfl
 by_cases c:a=1073741827
 .subst c;rfl
 by_cases d:a=3221225655
 .subst d;rfl
 by_cases f:a=1073741864
 .subst f;rfl
 have i:oK a=[]:=by simp[oK,Ga,b,c,d,f]
 rw[i];unfold vz;rw[List.filterMap_eq_nil_iff];intro j g
 have g:j<32:=by simpa using g
 unfold ri;rw[if_neg];rintro⟨h,_⟩
 have:j/8=0\/j/8=1\/j/8=2\/j/8=3:=an
 rcases this with e|e|e|e<;>rw[e] at h<;>simp[pG] at h<;>omega
def zvk(a:Nat):∀j,(vz a j).length<=j:=λj=>by
 unfold vz;have:=List.length_filterMap_le (λj=>ri a (j/8) (j%8)) (ace j);simpa using this
def zEH{β:Type}(f:β->V)(l:List β):(∀x∈l.map (λb=>[f b]),x.length=1)=True:=by simp only[eq_iff_iff,iff_true];intro x a;simp only[aag] at a;obtain⟨_,_,rfl⟩:=a;rfl
def zs6[ej G](a:Nat):FP G 489 [.int .u32 a] (.bf [NV (oK a),KV (oK a)]):=by
 refine bA ej.ae2 (aad rfl) ?_;have X:=zkv (G:=G);obtain⟨S,t⟩:∃S:Nat->List (List UInt8×Int),∀j,S j=vz a j:=⟨_,λ_=>rfl⟩
 have Z:∀j,(S j).length<=j:=λj=>by rw[t];exact zvk a j
 have DZ:S 0=[]:=by rw[t];rfl
 have F:∀i k,k<8->S (8*i+k+1)=S (8*i+k)++(ri a i k).toList:=λi k h=>by rw[t,t];exact zz8 a i k h
 have H:oK a=S 32:=by rw[t];exact(zvj a).symm
 rw[H];obtain⟨g,I⟩:∃g:List (List V),g=Bs.map λw=>[.str w]:=⟨_,rfl⟩;obtain⟨l,d⟩:∃l:List (List V),l=zk.map λr=>[.vs (r.map λn=>[.int .u32 n]) .full]:=⟨_,rfl⟩;obtain⟨o,e⟩:∃o:List (List V),o=pG.map λp=>[.int .u32 p.2]:=⟨_,rfl⟩
 have u:∀M,NV M=.vs (cf (M.map (·.1))) .no:=λ_=>rfl
 have x:∀M,KV M=.vs (M.map λp=>[.int .u32 p.2]) .no:=λ_=>rfl
 have gN:∀k,k<8->g[k]?=some [.str (Bs.getD k [])]:=λk J=>by
  subst I
  have:k=0\/k=1\/k=2\/k=3\/k=4\/k=5\/k=6\/k=7:=an
  rcases this with rfl|rfl|rfl|rfl|rfl|rfl|rfl|rfl<;>rfl
 have gM:∀i,i<4->o[i]?=some [.int .u32 (pG.getD i ([],0)).2]:=λi hi=>by
  subst e
  have:i=0\/i=1\/i=2\/i=3:=an
  rcases this with rfl|rfl|rfl|rfl<;>rfl
 have gR:∀i,i<4->∃R,l[i]?=some [.vs R .full]/\∀k,k<8->R[k]?=some [.int .u32 ((zk.getD i []).getD k 0)]:=λi hi=>by
  subst d
  have:i=0\/i=1\/i=2\/i=3:=an
  rcases this with rfl|rfl|rfl|rfl<;>refine⟨_,rfl,λk J=>?_⟩<;>(have:k=0\/k=1\/k=2\/k=3\/k=4\/k=5\/k=6\/k=7:=by omega)<;>rcases this with rfl|rfl|rfl|rfl|rfl|rfl|rfl|rfl<;>rfl
 have lN:g.length=8:=by subst I;rfl
 have lM:o.length=4:=by subst e;rfl
 have lR:l.length=4:=by subst d;rfl
 rw[u,x,<-e] at X;rw[u,x];obtain⟨c,q⟩:∃c:List (List UInt8×Int)->List (List V),∀M,c M=M.map λp=>[.int .u32 p.2]:=⟨_,λ_=>rfl⟩
 have K:∀M,(c M).length=M.length:=λM=>by rw[q];simp
 rw[<-q];simp;refine aw X ?_;simp
 refine aN 4 (λi=>[(0,.int .u32 a),(4,.vs g .full),(5,.int .u32 1000000),(6,.vs l .full),(8,.vs o .no),(9,.vs (cf ((S (8*i)).map (·.1))) (.own 0)),(10,.vs (c (S (8*i))) (.own 1)),(11,.int .i64 i)])
  (λi=>[some (.zone (S (8*i)).length),some (.zone (S (8*i)).length)]) (λ_=>True) ?_ ?_
 .simp[au,ak,DZ,q,cf,I,d,Bs,zk,Cu,Cv,F8,Cw,Cx,F9,Cy,F_]
 intro i hi _
 rcases aaj hi with L|N
 .subst L;simp
 have wi:((i:Int)<4)=True:=af8;obtain⟨R,y,O⟩:=gR i N;have D:=gM i N;obtain⟨m,Y⟩:=ax ((pG.getD i ([],0)).2);rw[<-Y] at D;simp[wi]
 refine aN 8 (λk=>[(0,.int .u32 a),(4,.vs g .full),(5,.int .u32 1000000),(6,.vs l .full),(8,.vs o .no),(9,.vs (cf ((S (8*i+k)).map (·.1))) (.own 0)),(10,.vs (c (S (8*i+k))) (.own 1)),(11,.int .i64 i),(12,.int .i64 k)])
  (λk=>[some (.zone (S (8*i+k)).length),some (.zone (S (8*i+k)).length)]) (λ_=>True) ?_ ?_
 .simp[au,ak]
 intro k J _
 have a0:aB .i64 (i:Int) 1=((i+1:Nat):Int):=by rw[eB]<;>omega
 rcases aaj J with L|s
 .subst L
  have:8*(i+1)=8*i+8:=an
  simp[au,ak,a0,N,this,-aab]
 have P:=O k s;have z:=gN k s;have b:=F i k s;unfold ri at b;rw[<-Y] at b;obtain⟨v,hv⟩:=ax ((zk.getD i []).getD k 0);obtain⟨w,hw⟩:=ax (Bs.getD k []);rw[<-hv] at P b;rw[<-hw] at z b
 have Q:aB .i64 (k:Int) 1=((k+1:Nat):Int):=by rw[eB]<;>omega
 have U:((k:Int)<8)=True:=af8;have hl:=Z (8*i+k);generalize S (8*i+k)=T at *
 have wk:(T.length+1)*16<=140737488355328:=an
 have s7:(T.length+1)*4<=140737488355328:=an
 have rD:=zvf (T.map (·.1))
 have u6:(∀f∈c T,f.length=1)=True:=by rw[q];exact zEH (λp:List UInt8×Int=>V.int .u32 p.2) T
 obtain⟨A,E⟩:=ax (T++[(w,v)])
 have wo:A.length=T.length+1:=by simp[E]
 have Fh:cf (T.map (·.1))++[[.str w]]=cf (A.map (·.1)):=by simp[cf,E]
 have Fi:c T++[[.int .u32 v]]=c A:=by rw[q,q];simp[E]
 have W:8*i+(k+1)=8*i+k+1:=rfl
 cases B:(m==(a:Int)) with
 | false =>
  rw[if_neg (by rintro⟨h,_⟩;simp[h] at B)] at b
  simp[U,D,B,Q,s,W,b,au,ak,-aab]
 | true =>
  cases C:(v !=1000000) with
  | false =>
   rw[if_neg (by rintro⟨_,h⟩;simp at C;exact h C)] at b
   simp[U,D,B,y,P,C,Q,s,W,b,au,ak,-aab]
  | true =>
   rw[if_pos ⟨by simpa using B,by simpa using C⟩] at b;simp only[ab6,<-E] at b;simp[U,D,B,y,P,z,C,Q,s,W,b,wk,s7,rD,u6,K,wo,Fh,Fi,au,ak,-aab]
def zs7(a:Nat):(oK a).length<=100:=by have:=zvk a 32;rw[zvj] at this;omega
def zCz[ej G][dB G](a n:Nat)(b:n<4294967296):FP G 494 [.int .u32 a,.int .u32 n] (.str (cQ (oK a) n)):=by refine bA ej.ae7 (aad rfl) ?_;have w:=zp3 (G:=G) (DT a) (zs7 a) n b;have q:=zs6 (G:=G) a;simp only[NV,KV] at w q;simp;refine aw q ?_;simp;refine aw w ?_;simp
def zvl[ej G][dB G][g7 G](a:Nat)(s:List UInt8)(b:s.length<=1000000):FP G 495 [.int .u32 a,.str s] (.bf [.int .u32 ((oL (oK a) s).getD 0:Nat),.bool (oL (oK a) s).isSome]):=by refine bA ej.ae8 (aad rfl) ?_;have w:=zvi (G:=G) (DT a) (zs7 a) s b;have q:=zs6 (G:=G) a;simp only[NV,KV] at w q;simp;refine aw q ?_;simp;refine aw w ?_;simp
def vA:List Nat:=[0,196608,2147221504,2147418112]
def zs8{v:Nat}{s:List UInt8}(h:ju v=s)(a:s≠[]):eE s=some v:=by
 unfold ju at h;split at h
 .rename_i b;rw[<-h];exact FW b
 .exact absurd h.symm a
def zEI(v:Nat):iG v≠[]:=by
 unfold iG;split
 .simp[kr]
 .rename_i h;exact h
def zxg{v:Nat}{s:List UInt8}(h:eE s=some v):ju v=s:=by rw[ju,if_pos (Bm h).1,(Bm h).2]
def zCA{s:List UInt8}(a:∀v,eE s=some v->v∉vA)(d:∀j<4096,6<s.length->ju (327680+j)≠s):eE s=none:=by
 cases h:eE s with
 | none=>rfl
 | some v =>
  obtain⟨e,f⟩:=Bm h;have a:=a v h;have g:=e;simp only[dU,decide_eq_true_eq] at g;simp only[vA,aaH,aa4,or_false] at a;obtain⟨k,i⟩:∃k,v=327680+k:=⟨v-327680,an⟩
  have l:k<=4095:=an
  subst i
  have b:6<s.length:=by have m:=zqi l;have c:=(Bm m).2;rw[f] at c;rw[c];have:=aba.2 (zvA k);simp[kr];omega
  exact absurd (zxg h) (d k an b)
def zlX[ej G][dB G][jO G](s:List UInt8)(L:s.length<=1000000):FP G 496 [.str s] (.bf [.int .u32 ((eE s).getD 0:Nat),.bool (eE s).isSome]):=by
 refine bA ej.ae9 (aad rfl) ?_;obtain⟨b,o⟩:∃b:Nat,b=327680:=⟨_,rfl⟩;obtain⟨f,c⟩:∃f:List (List V),f=vA.map λn=>[.int .u32 (n:Nat)]:=⟨_,rfl⟩
 have C:∀i,i<4->f[i]?=some [.int .u32 (vA.getD i 0:Nat)]/\vA.getD i 0<4294967296/\vA.getD i 0∈vA/\dU (vA.getD i 0)=true:=λi hi=>by
  subst c
  have:i=0\/i=1\/i=2\/i=3:=an
  rcases this with rfl|rfl|rfl|rfl<;>exact⟨rfl,aga,aga,aga⟩
 have M:f.length=4:=by subst c;rfl
 simp;refine aN 4 (λi=>[(0,.str s),(4,.vs f .full),(5,.int .i64 i)]) (λ_=>[]) (λi=>∀j<i,ju (vA.getD j 0)≠s) ?_ ?_
 .simp[au,ak,c,vA]
 intro i hi g
 rcases aaj hi with a|x
 .subst a
  have p:∀v,eE s=some v->v∉vA:=by
   intro v d y;have:=zxg d;simp only[vA,aaH,aa4,or_false] at y
   rcases y with rfl|rfl|rfl|rfl
   .exact g 0 aga (by rw[show vA.getD 0 0=0 by decide];exact this)
   .exact g 1 aga (by rw[show vA.getD 1 0=196608 by decide];exact this)
   .exact g 2 aga (by rw[show vA.getD 2 0=2147221504 by decide];exact this)
   .exact g 3 aga (by rw[show vA.getD 3 0=2147418112 by decide];exact this)
  simp;obtain⟨N,O⟩:=ax 4096;refine aN N (λi=>[(0,.str s),(6,.int .u32 i)]) (λ_=>[]) (λi=>∀j<i,6<s.length->ju (b+j)≠s) ?_ ?_
  .simp[au,ak]
  intro n D z
  rcases aaj D with a|E
  .subst a;have F:((n:Int)<4096)=False:=af9;have:eE s=none:=zCA p (λj k=>by rw[<-o];exact z j an);rw[this];simp[F]
  .have e:((n:Int)<4096)=True:=af8;have A:(n<N)=True:=eq_true E
   have q:aB .u32 327680 (n:Int)=((b+n:Nat):Int):=by unfold aB;rw[show(327680:Int)+(n:Int)=((b+n:Nat):Int) by omega];exact IntWalk.u32_in _ ⟨an,an⟩
   have B:aB .u32 (n:Int) 1=((n+1:Nat):Int):=by unfold aB;rw[show(n:Int)+1=((n+1:Nat):Int) by omega];exact IntWalk.u32_in _ ⟨an,an⟩
   have l:=zmP (G:=G) (b+n) an
   by_cases r:6<s.length
   .have m:(6<(s.length:Int))=True:=af8
    by_cases a:ju (b+n)=s
    .have d:=zs8 a (by intro h;rw[h] at r;simp at r);rw[d];simp[e,m,q,-aab];refine aw l ?_;simp[a,q,-aab]
    .have t:(ju (b+n)==s)=false:=by simpa using a
     simp[e,m,q,-aab];refine aw l ?_;simp[t,B,au,ak,A,-aab];intro j k u
     rcases aaj (abg k) with h|h
     .rw[h];exact a
     .exact z j h u
   .have m:(6<(s.length:Int))=False:=af9;simp[e,m,B,au,ak,A,-aab];intro j k u;exact absurd u r
 .obtain⟨w,H,P,I⟩:=C i x;have e:((i:Int)<4)=True:=af8
  have J:aB .i64 (i:Int) 1=((i+1:Nat):Int):=by rw[eB]<;>omega
  generalize d:vA.getD i 0=v at *;have l:=zmP (G:=G) v H
  by_cases a:ju v=s
  .have K:s≠[]:=by rw[<-a,ju,if_pos I];exact zEI v
   rw[zs8 a K];simp[e,w];refine aw l ?_;simp[a,w]
  .have t:(ju v==s)=false:=by simpa using a
   simp[e,w];refine aw l ?_;simp[t,J,x,au,ak,-aab];intro j k
   rcases aaj (abg k) with h|h
   .rw[List.getD_eq_getElem?_getD] at d;rw[h,d];exact a
   .exact g j h
def OC:List (List UInt8):=[[101,113],[110,101],[108,116],[108,101],[103,116],[103,101]]
def zs9[eX G]:FP G 497 [] (.vs (cf OC) .no):=by refine bA eX.afa (aad rfl) ?_;simp[cf,OC]
def zta{k:Nat}(h:k<6):(cf OC)[k]?=some [.str (iF k)]:=by
 have:k=0\/k=1\/k=2\/k=3\/k=4\/k=5:=an
 rcases this with rfl|rfl|rfl|rfl|rfl|rfl<;>rfl
def ztb[eX G][dB G](c:Cd)(j:c.right=true)(e:c.ok):FP G 498 [.agg c.cs] (.str (aO (kJ c))):=by
 refine bA eX.afb (aad rfl) ?_;simp only[Cd.right,decide_eq_true_eq] at j;obtain⟨a,f⟩:∃a:Nat,c.arg=a:=⟨c.arg.toNat,an⟩;obtain⟨k,g⟩:∃k:Nat,c.cmp=k:=⟨c.cmp.toNat,an⟩;obtain⟨d,i⟩:∃d:List (List V),d=[[.str [48]],[.str [49]],[.str [50]],[.str [51]],[.str [52]],[.str [53]]]:=⟨_,rfl⟩
 have r:a<6:=an
 have l:d[a]?=some [.str [aa0 (48+a)]]:=by
  subst i
  have:a=0\/a=1\/a=2\/a=3\/a=4\/a=5:=an
  rcases this with rfl|rfl|rfl|rfl|rfl|rfl<;>rfl
 have m:=K2 (G:=G) c.mask e.1;have o:=K2 (G:=G) c.val e.2;have w:=zs9 (G:=G);have p:=zta (k:=k) an;have s:=IP c.mask;have t:=IP c.val
 have u:(iF k).length<=2:=by unfold iF;repeat' (first|split|exact aaF _)
 have q:aO (kJ c)=97::aa0 (48+a)::32::(br c.mask++32::(iF k++32::br c.val)):=by rw[kJ,f,g];simp[aO]
 rw[q];simp only[Cd.cs,f,g];generalize br c.mask=M at *;generalize br c.val=U at *;generalize iF (k:Int)=W at *;generalize cf OC=WW at *;simp;rw[<-i];have b:∀n:Nat,n<=400->(n<=9223372036854775807)=True:=λn h=>eq_true an;simp(disch:=(first|omega|(simp;omega))) [l,b];refine aw m ?_;simp(disch:=(first|omega|(simp;omega))) [b];refine aw w ?_;simp(disch:=(first|omega|(simp;omega))) [p,b]
 refine aw o ?_;simp(disch:=(first|omega|(simp;omega))) [b]
def SU[eX G](s:List UInt8)(o:Nat)(C:s.length<=1000000)(t:o<=1000001):∃o',FP G 499 [.str s,.int .i64 o] (.bf [.str (fE 32 (s.drop o)),.int .i64 (o':Nat)])/\s.drop o'=h_ 32 (s.drop o)/\o'<=1000001:=by
 by_cases h:s.length<=o
 .refine⟨o,?_,?_,t⟩
  .refine bA eX.afc (aad rfl) ?_;have hd:s.drop o=[]:=aaZ h;have u:((o:Int)<(s.length:Int))=False:=af9;have d:((s.length:Int)<=(o:Int))=True:=af8;rw[hd];simp;refine aN 0 (λi=>[(0,.str s),(1,.int .i64 o),(6,.int .i64 o)]) (λ_=>[]) (λ_=>True) ?_ ?_
   .simp[au,ak]
   intro i hi _;simp[u,d,fE]
  .have hd:s.drop o=[]:=aaZ h;rw[hd];rfl
 .obtain⟨l,f,m,j,v⟩:=DR 32 (s.drop o);obtain⟨w,n⟩:=ax (fE 32 (s.drop o))
  have x:h_ 32 (s.drop o)=s.drop (o+w.length+1):=by rw[n];unfold h_;rw[ab2];congr 1
  rw[x];rw[<-n] at l f m j v |-
  have y:(s.drop o).length=s.length-o:=by simp
  rw[y] at l j;refine⟨o+w.length+1,?_,rfl,an⟩;refine bA eX.afc (aad rfl) ?_;simp;refine aN w.length (λi=>[(0,.str s),(1,.int .i64 o),(6,.int .i64 (o+i:Nat))]) (λ_=>[]) (λ_=>True) ?_ ?_
  .simp[au,ak]
  intro i hi _
  rcases aaj hi with z|p
  .subst z;have d:((s.length:Int)<=(o:Int))=False:=af9;have q:((o:Int)<=((o+w.length:Nat):Int))=True:=af8;have r:(((o+w.length:Nat):Int)<=(s.length:Int))=True:=af8
   have g:aB .i64 ((o+w.length:Nat):Int) 1=((o+w.length+1:Nat):Int):=by rw[eB]<;>omega
   have D:(s.drop o).take (o+w.length-o)=w:=by rw[show o+w.length-o=w.length by omega];exact f
   by_cases a:o+w.length<s.length
   .have c:=j an;rw[abv] at c;obtain⟨_,k⟩:=aae.1 c;simp[a,k,d,q,r,g,-aab];exact⟨f,an⟩
   .simp[a,d,q,r,g,-aab];exact⟨f,an⟩
  .have a:o+i<s.length:=an
   obtain⟨b,c⟩:∃b,s[o+i]?=some b:=⟨_,aaf a⟩;obtain⟨_,k⟩:=aae.1 c
   have A:b≠32:=by have:=m i p;rw[abv,c] at this;simpa using this
   have B:((b.toNat:Int) !=32)=true:=by have:b.toNat≠32:=λe=>A (abm.1 e);simp;omega
   have g:aB .i64 ((o+i:Nat):Int) 1=((o+(i+1):Nat):Int):=by rw[eB]<;>omega
   simp[a,k,B,g,p,au,ak,-aab]
def zz9[eX G][dB G][g7 G](s:List UInt8)(z:s.length<=1000000):FP G 500 [.str s] (.bf [.agg ((dQ s).getD ⟨0,0,0,0⟩).cs,.bool (dQ s).isSome]):=by
 refine bA eX.afd (aad rfl) ?_;obtain⟨l,p0,A,l1⟩:=SU (G:=G) s 0 z an;obtain⟨U,p1,I,l2⟩:=SU (G:=G) s l z l1;obtain⟨o,p2,W,l3⟩:=SU (G:=G) s U z l2;obtain⟨o4,p3,d4,l4⟩:=SU (G:=G) s o z l3;rw[ab3] at A p0;have p:∀t:List UInt8,(fE 32 t).length<=t.length:=λt=>(DR 32 t).1;have n1:=zob (G:=G) (fE 32 (s.drop l)) (by have:=p (s.drop l);simp at this;omega);have X:=zob (G:=G) (fE 32 (s.drop o)) (by have:=p (s.drop o);simp at this;omega)
 obtain⟨m,f⟩:=ax ((dG (fE 32 (s.drop l))).getD 0);obtain⟨v,g⟩:=ax ((dG (fE 32 (s.drop o))).getD 0)
 have J:m<18446744073709551616:=by
  rw[f]
  cases h:dG (fE 32 (s.drop l)) with
  | none=>simp
  | some n=>exact(zP h).1
 have K:v<18446744073709551616:=by
  rw[g]
  cases h:dG (fE 32 (s.drop o)) with
  | none=>simp
  | some n=>exact(zP h).1
 rw[<-f] at n1;rw[<-g] at X;obtain⟨w,L⟩:=ax (fE 32 (s.drop U));rw[<-L] at p2
 have d:∀c,dQ s=some c->∃a k:Nat,a<6/\k<6/\c=⟨a,k,m,v⟩/\w=iF k:=by
  intro c hc;obtain⟨b,Y⟩:=N9 hc;have Z:=b.1;simp only[Cd.right,decide_eq_true_eq] at Z;have M:=λx hx=>Zw (zm0 b.1 b.2 x hx);simp only[kJ,aO] at Y M;simp only[aaH,aa4,or_false,forall_eq_or_imp,forall_eq] at M;obtain⟨h0,B,C,q⟩:=M;have q0:=Iq (r:=br c.mask++32::(iF c.cmp++32::br c.val)) h0;have q1:=Iq (r:=iF c.cmp++32::br c.val) B;have q2:=Iq (r:=br c.val) C;have Bh:fE 32 (br c.val)=br c.val:=zrn q
  rw[Y] at q0;rw[q0.2] at A;rw[A,q1.2] at I;rw[I,q2.2] at W;rw[A,q1.1,Sm b.2.1] at f;rw[W,Bh,Sm b.2.2] at g;rw[I,q2.1] at L;simp only[aaC] at f g;refine⟨c.arg.toNat,c.cmp.toNat,an,an,?_,?_⟩
  .cases c;simp only at f g Z |-;subst f;subst g
   congr 1<;>omega
  .rw[L];congr 1;omega
 have du:∀a k:Nat,a<6->k<6->(⟨a,k,m,v⟩:Cd).du:=λa k ha u=>⟨by simp[Cd.right];omega,J,K⟩;have wd:=zs9 (G:=G);simp;refine aw p0 ?_;simp;refine aw p1 ?_;simp;refine aw p2 ?_;simp;refine aw p3 ?_;simp;refine aw n1 ?_;simp;refine aw X ?_;simp;obtain⟨R,y⟩:=ax (dQ s);rw[<-y];have eI:∀a k:Nat,[V.int .i64 a,.int .i64 k,.int .u64 m,.int .u64 v]=(⟨a,k,m,v⟩:Cd).cs:=λ_ _=>rfl
 refine aN 6 (λa=>[(0,.str s),(2,.ptr 0 0),(8,.str w),(12,.int .u64 m),(14,.int .u64 v),(16,.int .i64 a)]) (λ_=>[some (.cells [.int .i64 0,.int .i64 0,.int .u64 0,.int .u64 0])])
  (λa=>∀i k:Nat,i<a->k<6->R≠some ⟨i,k,m,v⟩) ?_ ?_
 .simp[au,ak,az.cl,a_,V.cl]
 intro a ha jd
 rcases aaj ha with N|yB
 .subst N
  have hn:R=none:=by
   cases h:R with
   | none=>rfl
   | some c =>
    obtain⟨i,k,B,C,q,O⟩:=d c (by rw[<-y,h]);exact absurd (by rw[h,q]) (jd i k B C)
  rw[hn];simp[Cd.cs]
 have ca:((a:Int)<6)=True:=af8
 have a0:aB .i64 (a:Int) 1=((a+1:Nat):Int):=by rw[eB]<;>omega
 simp[ca]
 refine aN 6 (λk=>[(0,.str s),(2,.ptr 0 0),(8,.str w),(12,.int .u64 m),(14,.int .u64 v),(16,.int .i64 a),(17,.int .i64 k)]) (λ_=>[some (.cells [.int .i64 0,.int .i64 0,.int .u64 0,.int .u64 0])])
  (λk=>∀j:Nat,j<k->R≠some ⟨a,j,m,v⟩) ?_ ?_
 .simp[au,ak,az.cl,a_,V.cl]
 intro k u SW
 rcases aaj u with N|D
 .subst N;simp[a0,yB,au,ak,az.cl,a_,V.cl,-aab];intro i k hi u
  rcases aaj (abg hi) with h|h
  .rw[h];exact SW k u
  .exact jd i k h u
 have ck:((k:Int)<6)=True:=af8
 have k0:aB .i64 (k:Int) 1=((k+1:Nat):Int):=by rw[eB]<;>omega
 have P:=zta D;have b:=du a k yB D;have E:=ztb (G:=G) ⟨a,k,m,v⟩ b.1 b.2;obtain⟨T,Q⟩:=ax (aO (kJ ⟨a,k,m,v⟩));rw[<-Q] at E
 have x6:R≠some ⟨a,k,m,v⟩->∀j:Nat,j<k+1->R≠some ⟨a,j,m,v⟩:=by
  intro h j hj
  rcases aaj (abg hj) with e|e
  .rw[e];exact h
  .exact SW j e
 generalize cf OC=WW at *;simp only[Cd.cs] at E;simp[ck];refine aw wd ?_
 cases F:(w==iF k) with
 | false =>
  have S:R≠some ⟨a,k,m,v⟩:=by
   intro h;obtain⟨i,j,B,C,q,O⟩:=d _ (by rw[<-y,h]);simp only[Cd.mk.injEq] at q
   have:j=k:=an
   rw[this] at O;simp[O] at F
  simp[P,F,k0,D,au,ak,az.cl,a_,V.cl,-aab]
  exact x6 S
 | true =>
  cases H:(T==s) with
  | false =>
   have S:R≠some ⟨a,k,m,v⟩:=by intro h;have:=(N9 (y▸h)).2;rw[<-Q] at this;simp[this] at H
   simp[P,F];refine aw E ?_;simp[H,k0,D,au,ak,az.cl,a_,V.cl,-aab]
   exact x6 S
  | true =>
   have nb:R=some ⟨a,k,m,v⟩:=by rw[y];exact zu9 b (by rw[<-Q];simpa using H)
   rw[nb];simp[P,F];refine aw E ?_;simp[H,Cd.cs]
def zAa[eX G][dB G][ej G][jO G][gE G](r:Ru)(d:r.cu):FP G 501 [.agg r.cs] (.str (aO (qp r))):=by
 refine bA gE.afe (aad rfl) ?_;obtain⟨o,w,y,p,N⟩:=B2 d;have q:=zmP (G:=G) r.act (JX p);rw[ju,if_pos p] at q;have z:=zwj (G:=G) r.aJ w;have B:=zCz (G:=G) r.aJ r.nr y;have O:=Sp DS (v:=r.aJ);have Q:=Sp (DT r.aJ) (v:=r.nr);have R:=zvB (v:=r.act);have s:=zq0 r;obtain⟨T,e⟩:∃T:Nat->List UInt8,∀i,T i=Co r i:=⟨_,λ_=>rfl⟩
 have D:∀i,i<=r.conds.length->(T i).length<=80+50*i:=λi hi=>by rw[e];exact zs1 r i hi
 have E:∀i c,r.conds[i]?=some c->T (i+1)=T i++(32::xm i++32::KM c):=λi c h=>by rw[e,e];exact zq1 h
 have f:T r.conds.length=aO (qp r):=by rw[e];exact zzY r
 rw[<-f];rw[<-e] at s;generalize cQ pG r.aJ=M at *;generalize cQ (oK r.aJ) r.nr=C at *;generalize iG r.act=A at *
 have F:T 0=111::110::32::(M++32::(C++32::A)):=by rw[s];simp
 have a:∀n:Nat,n<=400->(n<=9223372036854775807)=True:=λn h=>eq_true an;simp only[Ru.cs];simp;refine aw z ?_;simp(disch:=(first|omega|(simp;omega))) [a];refine aw B ?_;simp(disch:=(first|omega|(simp;omega))) [a];refine aw q ?_;simp(disch:=(first|omega|(simp;omega))) [a];refine aN r.conds.length (λi=>[(1,.ptr 0 0),(3,.str (T i)),(4,.int .i64 i)]) (λ_=>[some (.cells r.cs)]) (λ_=>True) ?_ ?_
 .simp[au,ak,F,Ru.cs]
 intro i hi _
 by_cases b:i<r.conds.length
 .obtain⟨x,H⟩:=ax (r.conds[i])
  have d:r.conds[i]?=some x:=by rw[aaf b,H]
  have t:=aah d;have g:=zvu d
  have j:(CL r.conds)[i]'(by simpa using b)=x.cs:=by rw[aaf (by simpa using b)] at g;exact aa2.inj g
  have k:=ztb (G:=G) x (o x t).1 (o x t).2;have l:=E i x d;have S:=D i hi;have I:=ztu x
  have J:aB .i64 (i:Int) 1=((i+1:Nat):Int):=by rw[eB]<;>omega
  have K:((i:Int)<(r.conds.length:Int))=True:=af8;rw[show KM x=aO (kJ x) from rfl] at l I;simp only[Cd.cs] at k g j;generalize aO (kJ x)=P at *
  by_cases u:i=0
  .subst u
   have m:T 0++32::105::102::32::P=T (0+1):=by rw[l];simp[xm]
   simp(disch:=(first|omega|(simp;omega))) [b,j,Ru.cs,a];refine aw k ?_;simp(disch:=(first|omega|(simp;omega))) [m,a,au,ak,b,show aB .i64 0 1=1 by decide,-aab]
  .have L:((i:Int)==0)=false:=by simp;omega
   have m:T i++32::97::110::100::32::P=T (i+1):=by rw[l];simp[xm,u]
   simp(disch:=(first|omega|(simp;omega))) [K,j,L,Ru.cs,a];refine aw k ?_;simp(disch:=(first|omega|(simp;omega))) [m,a,au,ak,J,b,-aab]
 .have:i=r.conds.length:=an
  subst this;simp[Ru.cs]
def zrb:∀(l:List Cd) (k:Nat),(iM k l).length=5*l.length
 | [],k=>rfl
 | c::l,k=>by
  simp only[iM,aaQ,aat,zrb l (k+1)];simp[kJ];omega
def zps:∀(j k:Nat) (l:List Cd),(iM k l).drop (5*j)=iM (k+j) (l.drop j)
 | 0,k,l=>rfl
 | j+1,k,[]=>by simp[iM]
 | j+1,k,c::l=>by
  rw[show 5*(j+1)=5*j+5 by omega];simp only[iM,kJ,aao,aaV,abq];rw[zps j (k+1) l]
  congr 1;omega
def zmR{s:List UInt8}{y:Ru}(h:vt s=some y):y.cu/\∃M C A,gG 32 s=[111,110]::M::C::A::iM 0 y.conds/\oL pG M=some y.aJ/\oL (oK y.aJ) C=some y.nr/\eE A=some y.act:=by obtain⟨a,b⟩:=SB h;obtain⟨f,c,d,e,g⟩:=B2 a;exact⟨a,_,_,_,b.symm,KP DS c,KP (DT _) d,FW e⟩
def zAb{s:List UInt8}{y:Ru}(h:vt s=some y){j:Nat}(f:j<y.conds.length){a b c d:List UInt8}{r:List (List UInt8)}(e:(gG 32 s).drop (4+5*j+1)=a::b::c::d::r) :
  dQ (aO [a,b,c,d])=some y.conds[j]:=by
 obtain⟨g,M,C,A,i,_⟩:=zmR h;rw[i,show 4+5*j+1=(5*j+1)+4 by omega] at e;simp only[abq] at e;rw[<-ab2,zps,abb f] at e;simp only[iM,aao,abq,ab3] at e;have k:=(B2 g).1 _ (List.getElem_mem f)
 have:[a,b,c,d]=kJ y.conds[j]:=by have:=congrArg (List.take 4) e;simpa[kJ] using this.symm
 rw[this];exact Zk k
def zAc[jC G][eX G][dB G][g7 G][ej G][jO G][gE G](s:List UInt8)(hs:s.length<=20000):FP G 502 [.str s] (.bf [.agg ((vt s).getD ⟨0,0,[],0⟩).cs,.bool (vt s).isSome]):=by
 refine bA gE.aff (aad rfl) ?_;have Z:=zvh (G:=G) s 32 an;rw[show((aca 32:Nat):Int)=32 from rfl] at Z;obtain⟨w,t⟩:=ax (gG 32 s);obtain⟨R,H⟩:=ax (vt s)
 have Bt:aO w=s:=by rw[t];exact Sz s
 have hp:∀x∈w,fX x:=by rw[t];exact SA s
 have u:∀x∈w,x.length<=20000:=by
  intro x m
  have:∀(l:List (List UInt8)),x∈l->x.length<=(aO l).length:=by
   intro l
   induction l with
   | nil=>simp
   | cons v l ih =>
    intro h
    rcases aaH.1 h with rfl|h
    .exact DU (x::l)
    .have:=ih h;have:=Zn v l;omega
  have:=this w m;rw[Bt] at this;omega
 have hb:=Zo w;rw[Bt] at hb;rw[<-t] at Z;rw[<-H]
 have e:∀y,R=some y->4<=w.length/\w.length<=24/\(w.length-4)%5=0/\w.length=4+5*y.conds.length:=by intro y p;obtain⟨hg,M,C,A,O,_⟩:=zmR (H▸p);have h4:=(B2 hg).2.2.2.2;rw[t,O];simp only[aaQ,zrb];omega
 simp;refine aw Z ?_;have zero:V.bf [.agg [.int .u32 0,.int .u32 0,.vs [] .no,.int .u32 0],.bool false]=.bf [.agg ((none:Option Ru).getD ⟨0,0,[],0⟩).cs,.bool (none:Option Ru).isSome]:=rfl
 by_cases c1:w.length<4
 .have k:R=none:=by
   cases h:R with
   | none=>rfl
   | some y=>have:=e y h;omega
  have P:((w.length:Int)<4)=True:=af8;rw[k,<-zero];simp[P]
 have P:((w.length:Int)<4)=False:=af9
 by_cases c2:24<w.length
 .have k:R=none:=by
   cases h:R with
   | none=>rfl
   | some y=>have:=e y h;omega
  have SY:(24<(w.length:Int))=True:=af8;rw[k,<-zero];simp[P,SY]
 have SY:(24<(w.length:Int))=False:=af9
 have e1:cL .i64 (w.length:Int) 4=((w.length-4:Nat):Int):=by rw[nC an an];omega
 have e2:iu ((w.length-4:Nat):Int) 5=(((w.length-4)%5:Nat):Int):=zz (b:=5)
 by_cases c3:(w.length-4)%5=0
 rotate_left
 .have k:R=none:=by
   cases h:R with
   | none=>rfl
   | some y=>have:=e y h;omega
  have OE:((((w.length-4)%5:Nat):Int) !=0)=true:=by simp;omega
  rw[k,<-zero];simp[P,SY,e1,e2,OE,-abX]
 have OE:((((w.length-4)%5:Nat):Int) !=0)=false:=by simp;omega
 obtain⟨N,hN⟩:∃N,w.length=4+5*N:=⟨(w.length-4)/5,an⟩
 have hq:N<=4:=an
 obtain⟨w0,M,C,A,WR,z⟩:∃w0 M C A WR,w=w0::M::C::A::WR:=by
  match w,c1 with
  | a::b::c::d::r,_=>exact⟨a,b,c,d,r,rfl⟩
  | [],h=>simp at h
  | [_],h=>simp at h
  | [_,_],h=>simp at h
  | [_,_,_],h=>simp at h
 have pM:=zq9 (G:=G) M (by have:=u M (by rw[z];simp);omega);obtain⟨a,B⟩:=ax ((oL pG M).getD 0);have pC:=zvl (G:=G) a C (by have:=u C (by rw[z];simp);omega);obtain⟨n,k⟩:=ax ((oL (oK a) C).getD 0);have pA:=zlX (G:=G) A (by have:=u A (by rw[z];simp);omega);obtain⟨v,hv⟩:=ax ((eE A).getD 0);rw[<-B] at pM;rw[<-k] at pC;rw[<-hv] at pA;have g1:(cf w)[1]?=some [.str M]:=Ct (by rw[z];rfl)
 have g2:(cf w)[2]?=some [.str C]:=Ct (by rw[z];rfl);have g3:(cf w)[3]?=some [.str A]:=Ct (by rw[z];rfl)
 have g:∀y,R=some y->oL pG M=some y.aJ/\oL (oK y.aJ) C=some y.nr/\eE A=some y.act/\y.cu/\qp y=w/\y.conds.length=N:=by intro y p;obtain⟨hg,M',C',A',O,I,E,J⟩:=zmR (H▸p);have hl:=(e y p).2.2.2;rw[<-t,z] at O;simp only[abi.injEq] at O;obtain⟨_,rfl,rfl,rfl,_⟩:=O;exact⟨I,E,J,hg,by rw[t];exact(SB (H▸p)).2,an⟩
 obtain⟨q,K⟩:=ax (cf w)
 have Q:q.length=w.length:=by rw[K];simp
 rw[<-K] at Z g1 g2 g3 |-;simp[P,SY,e1,e2,OE,Q,g1,-abX];refine aw pM ?_;simp[g2];refine aw pC ?_;simp[g3];refine aw pA ?_;obtain⟨b1,ji⟩:=ax ((oL pG M).isSome);obtain⟨b2,im⟩:=ax ((oL (oK a) C).isSome);obtain⟨b3,sE⟩:=ax ((eE A).isSome);rw[<-ji,<-im,<-sE]
 by_cases aT:b1=true/\b2=true/\b3=true
 rotate_left
 .have k:R=none:=by
   cases h:R with
   | none=>rfl
   | some y =>
    obtain⟨I,E,J,_⟩:=g y h;rw[I] at B ji;simp only[aaC] at B;rw[<-B] at E;rw[E] at im;rw[J] at sE;exact absurd ⟨ji,im,sE⟩ aT
  rw[k,<-zero]
  cases b1<;>cases b2<;>cases b3<;>first|(exact absurd ⟨rfl,rfl,rfl⟩ aT)|simp
 obtain⟨rfl,rfl,rfl⟩:=aT;obtain⟨a',nG⟩:=aap.1 ji.symm;rw[nG] at B;simp only[aaC] at B;subst B;obtain⟨n',uU⟩:=aap.1 im.symm;rw[uU] at k;simp only[aaC] at k;subst k;obtain⟨v',xK⟩:=aap.1 sE.symm;rw[xK] at hv;simp only[aaC] at hv;subst hv;have U:=(Bm xK).1;simp
 refine wq (S:=List Cd) (λcs=>N-cs.length) (λcs=>[(0,.str s),(2,.ptr 0 0),(4,.vs q .no),(5,.ptr 1 0),(12,.int .i64 (4+5*cs.length:Nat))])
  (λcs=>[some (.cells [.int .u32 0,.int .u32 0,.vs [] .full,.int .u32 0]),some (.cells [.int .u32 a,.int .u32 n,.vs (CL cs) (.own 2),.int .u32 v]),some (.zone cs.length)])
  (λcs=>cs.length<=N/\(∀c∈cs,c.du)/\∀y,R=some y->y.conds.take cs.length=cs) [] ?_ ?_
 .refine⟨⟨abG _,ir,λy _=>by simp⟩,?_,?_⟩
  .simp[au]
  .simp[ak,az.cl,a_,V.cl,Tk.cl,CL]
 rintro cs ⟨p1,p2,p3⟩
 by_cases aj:cs.length<N
 .have hL:((4+5*cs.length:Nat):Int)<(w.length:Int):=an
  obtain⟨o,ho⟩:=ax (4+5*cs.length)
  obtain⟨x1,x2,x3,x4,xr,m⟩:∃x1 x2 x3 x4 xr,w.drop (o+1)=x1::x2::x3::x4::xr:=by
   have hl:4<=(w.drop (o+1)).length:=by simp;omega
   match w.drop (o+1),hl with
   | a::b::c::d::r,_=>exact⟨a,b,c,d,r,rfl⟩
  have gx:∀i x,(x1::x2::x3::x4::xr)[i]?=some x->w[o+1+i]?=some x:=λi x h=>by rw[<-abv,m];exact h
  have y1:=gx 0 x1 rfl;have y2:=gx 1 x2 rfl;have y3:=gx 2 x3 rfl;have y4:=gx 3 x4 rfl;have k1:=u x1 (aah y1);have k2:=u x2 (aah y2);have k3:=u x3 (aah y3);have k4:=u x4 (aah y4)
  have z1:q[o+1]?=some [.str x1]:=by rw[K];exact Ct y1
  have z2:q[o+2]?=some [.str x2]:=by rw[K];exact Ct y2
  have z3:q[o+3]?=some [.str x3]:=by rw[K];exact Ct y3
  have z4:q[o+4]?=some [.str x4]:=by rw[K];exact Ct y4
  have q1:=(aae.1 z1).2;have q2:=(aae.1 z2).2;have q3:=(aae.1 z3).2;have q4:=(aae.1 z4).2
  have i1:aB .i64 (o:Int) 1=((o+1:Nat):Int):=by rw[eB]<;>omega
  have i2:aB .i64 (o:Int) 2=((o+2:Nat):Int):=by rw[eB]<;>omega
  have i3:aB .i64 (o:Int) 3=((o+3:Nat):Int):=by rw[eB]<;>omega
  have i4:aB .i64 (o:Int) 4=((o+4:Nat):Int):=by rw[eB]<;>omega
  have i5:aB .i64 (o:Int) 5=((o+5:Nat):Int):=by rw[eB]<;>omega
  have vQ:aO [x1,x2,x3,x4]=x1++32::(x2++32::(x3++32::x4)):=by simp[aO]
  have F:=zz9 (G:=G) (aO [x1,x2,x3,x4]) (by rw[vQ];simp;omega);rw[vQ] at F
  have IW:∀y,R=some y->dQ (x1++32::(x2++32::(x3++32::x4)))=y.conds[cs.length]?:=by intro y p;have hh:=(g y p).2.2.2.2.2;have:=zAb (H▸p) (j:=cs.length) an (r:=xr) (a:=x1) (b:=x2) (c:=x3) (d:=x4) (by rw[<-t,<-ho];exact m);rw[vQ] at this;rw[this,aaf an]
  obtain⟨D,hD⟩:∃D,D=dQ (x1++32::(x2++32::(x3++32::x4))):=⟨_,rfl⟩;rw[<-hD] at F IW;rw[<-ho] at hL |-;have W:((o:Int)<(w.length:Int))=True:=eq_true hL;have s1:(x1.length+1<=9223372036854775807)=True:=af8;have b9:∀n:Nat,n<=100000->(n<=9223372036854775807)=True:=λn h=>eq_true an
  have l1:((o+1:Nat):Int)<(w.length:Int):=an
  have iQ:((cs.length+1)*32<=140737488355328)=True:=af8;have FX:(∀f∈CL cs,f.length=4)=True:=eq_true (by intro f hf;simp only[CL,aag] at hf;obtain⟨y,_,rfl⟩:=hf;rfl)
  cases X:D with
  | none =>
   have k:R=none:=by
    cases h:R with
    | none=>rfl
    | some y =>
     have:=IW y h;have hh:=(g y h).2.2.2.2.2;rw[X,aaf an] at this;cases this
   rw[X] at F;rw[k,<-zero];simp(disch:=(first|omega|(simp;omega))) [W,Q,q1,q2,q3,q4,i1,i2,i3,i4,b9,-aab];refine aw F ?_
   simp[Cd.cs]
  | some c =>
   have dV:CL cs++[c.cs]=CL (cs++[c]):=by simp[CL]
   rw[X] at F;simp only[aaC,Cd.cs,Option.isSome_some] at F dV;simp(disch:=(first|omega|(simp;omega))) [W,Q,q1,q2,q3,q4,i1,i2,i3,i4,b9,-aab];refine aw F ?_;simp(disch:=(first|omega|(simp;omega))) [iQ,FX,dV,i5,-aab];refine⟨cs++[c],?_,⟨by simp;omega,?_,?_⟩,?_,?_⟩
   .simp;omega
   .intro x m
    rcases aai.1 m with m|m
    .exact p2 x m
    .rw[aar.1 m];exact(N9 (hD▸X)).1
   .intro y p;have h1:=IW y p;rw[X] at h1;rw[aat,List.length_singleton,aay,p3 y p,<-h1];rfl
   .have e5:o+5=4+5*(cs.length+1):=an
    simp[au,e5,-aab,-abF]
   .simp[ak,az.cl,a_,V.cl,Tk.cl]
 .have hj:cs.length=N:=an
  have W:(((4+5*cs.length:Nat):Int)<(w.length:Int))=False:=af9
  have hk:cs.length<=4:=an
  have m:(⟨a,n,cs,v⟩:Ru).cu:=by refine⟨?_,λc L=>(p2 c L).2,(Sv nG).1,(Sv uU).1,JX U⟩;simp only[jb,aaL,decide_eq_true_eq,aa_];exact⟨⟨λc L=>(p2 c L).1,U⟩,hk⟩
  have pL:=zAa (G:=G) ⟨a,n,cs,v⟩ m;obtain⟨T,hT⟩:=ax (aO (qp ⟨a,n,cs,v⟩));rw[<-hT] at pL;simp only[Ru.cs] at pL
  cases Y:(T==s) with
  | true =>
   have hr:R=some ⟨a,n,cs,v⟩:=by
    rw[H];refine zvd m ?_
    have:aO (qp ⟨a,n,cs,v⟩)=s:=by rw[<-hT];simpa using Y
    rw[<-this,zCr (zCs _) (zyh m)]
   rw[hr];simp[W,Q,-aab];refine aw pL ?_
   simp[Y,Ru.cs]
  | false =>
   have k:R=none:=by
    cases h:R with
    | none=>rfl
    | some y =>
     obtain⟨I,E,J,hg,hm,hl⟩:=g y h;have L:=p3 y h;rw[hj,<-hl,aau] at L;rw[nG] at I;cases I;rw[uU] at E;cases E;rw[xK] at J;cases J
     have:aO (qp y)=s:=by rw[hm,Bt]
     rw[<-L] at hT;rw[hT,this] at Y;simp at Y
   rw[k,<-zero];simp[W,Q,-aab];refine aw pL ?_;simp[Y]
end Go.Ev
