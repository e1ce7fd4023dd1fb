/- What is found: plain laws; the examples of layer 19. -/
import Derived.KernelRfl
import Derived.Test.YtbkhoemaobbplaaGreatDoorSymSW
import Derived.Test.YtbkhoemaobbplaaGreatDoorInsAW
import Derived.Test.YtbkhoemaobbplaaGreatDoorEvWinCW
import Derived.Test.YtbkhoemaobbplaaGreatDoorArgIW
import Derived.Test.YtbkhoemaobbplaaGreatDoorEvInsCW
set_option linter.defProp false
set_option linter.unusedSimpArgs false
set_option linter.unusedVariables false
set_option maxHeartbeats 8000000
set_option maxRecDepth 10000
open Bool renaming and_eq_true->aab,or_eq_true->aaP,or_eq_false_iff->aba,true_and->abe
open Int renaming natCast_add->aad,natCast_emod->aav,natCast_ediv->aaZ
open List renaming getElem?_eq_getElem->aae,getElem?_eq_some_iff->aag,mem_of_getElem?->aah,length_append->aai,drop_eq_getElem_cons->aaj,all_eq_true->aak,length_take->aal,mem_cons->aan,mem_singleton->aao,mem_of_mem_drop->aar,take_add_one->aat,getElem_mem->aau,getElem?_drop->aaw,mem_append->aax,getElem?_of_mem->aay,take_length->aaA,append_assoc->aaC,not_mem_nil->aaD,mem_of_mem_take->aaG,length_drop->aaH,getElem?_take->aaI,replicate->aaJ,take_of_length_le->aaL,exists_of_findSome?_eq_some->aaO,range->aaT,getD_eq_getElem?_getD->aaW,length_cons->aaY,mem_map->aa0,getElem?_cons_zero->aa1,drop_eq_nil_of_le->aa2,take_zero->aa3,drop_zero->aa4,mem_range->aa5,mem_replicate->abi,countP_append->abj,ext_getElem->abn,length_set->abo,cons->abw
open Nat renaming le_of_ble_eq_true->aaf,le_refl->aaq,le_trans->aas,lt_succ_iff_lt_or_eq->aaB,mod_lt->aaX,add_zero->abp,zero_le->abu
open UInt8 renaming ofNat->aap
open Option renaming map_eq_some_iff->aaN,toList_some->abl,some->abt
open BitVec renaming toNat_ofNat->abm
namespace Go.Ev
open Go Go.RowKit
variable {G:aK}
section
variable {w:List af} {live:Nat} {tries:Int}
def zoU{hit:Nat->List af->Bool}{p:Nat×List af}:∀{l:List (List af)} {k:Nat},uK hit l k=some p->∀i,k+i<p.1->∀c,l[i]?=some c->hit (k+i) c=false
 | [],_,h=>by cases h
 | d::l,k,h=>by
  rw[uK] at h;split at h
  .cases h;intro i hi;omega
  .rename_i b;intro i hi c a
   cases i with
   | zero =>
    simp only[aa1,abt.injEq] at a;subst a
    simpa using b
   | succ i =>
    rw[show k+(i+1)=k+1+i by omega];exact zoU h i an c (by simpa using a)
def zEB{c:List af}(h:jS w live tries=some c):∃k:Nat,(k:Int)<tries/\(su w (ia w))[k]?=some c/\(eU w c live).1=0/\∀j<k,∀c,(su w (ia w))[j]?=some c->(eU w c live).1≠0:=by
 unfold jS at h;split at h
 .rename_i p a;obtain⟨_,b,d⟩:=zsm a;have e:=zoU a;rw[Nat.sub_zero] at b;split at h
  .cases h
  .rename_i f;cases h;simp only[sX,aaP,decide_eq_true_eq] at d;refine⟨p.1,an,b,d.resolve_left f,λj i c g=>?_⟩;have:=e j an c g;simp only[sX,Nat.zero_add,aba,decide_eq_false_iff_not] at this;exact this.2
 .cases h
end
def zGT{l:List af}{x:af}(a:∀y∈l,aY [y]=true):∀y∈qR l x,aY [y]=true:=by
 unfold qR;split
 .exact a
 .split
  .rename_i b;intro y c
   rcases aax.1 c with h|h
   .exact a y h
   .rw[aao.1 h];exact b
  .exact a
def Ug:∀{xs l:List af},(∀y∈l,aY [y]=true)->∀y∈fX l xs,aY [y]=true
 | [],_,a=>a
 | x::xs,l,a=>by
  show ∀y∈fX (qR l x) xs,aY [y]=true;exact Ug (zGT a)
def zxT{w:List af}{a:List Nat}:∀y∈Hd w a,mO y=true:=by intro y b;have:=Ug (Ug (Ug (l:=[]) ir)) y b;simpa[aY] using this
def zEC{w L c:List af}(b:∀y∈L,mO y=true)(a:c∈su w L)(f:w.length<=32):aY c=true:=by have g:=Uh a;have d:=Ui a;simp only[aY,aab,decide_eq_true_eq,aak];exact⟨an,λx e=>b x (d x e)⟩
open Go Go.RowKit
variable {G:aK}
def sA(a:Nat):St:=⟨a,0,aP 16⟩
def zM8{a:Nat}(h:a<4294967296):(sA a).ok:=⟨h,show(0:Nat)<4294967296 by decide,by simp[sA],λw b=>by
 simp only[sA,aP,abi] at b
 omega⟩
def Prd(f:List af)(i:Nat):Prop:=∃j x o,f[j]?=some x/\o∈aW x/\j+1+o=i
def wm(f:List af):Prop:=∀i,0<i->i<f.length->Prd f i
def Qd(f:List af)(m:List Bool):Prop:=∀i,m[i]?=some true->0<i->∃j x o,f[j]?=some x/\m[j]?=some true/\o∈aW x/\j+1+o=i
def zqT(m:List Bool)(i o:Nat):bQ m (i+o)=bQ m i+bQ (m.drop i) o:=by simp only[bQ];rw[List.take_add,abj]
def zED{m:List Bool}{i:Nat}(h:m[i]?=some true):bQ m (i+1)=bQ m i+1:=by rw[zqT];have a:=(aag.1 h);obtain⟨b,c⟩:=a;have:=aaj b;rw[c] at this;rw[this];simp[bQ]
def zqU:∀(m:List Bool) (p:Nat),p<m.countP id->∃i,m[i]?=some true/\bQ m i=p
 | [],p,h=>by simp at h
 | true::m,0,_=>⟨0,rfl,JN _⟩
 | true::m,p+1,h=>by
  obtain⟨i,a,b⟩:=zqU m p (by simpa using h)
  exact⟨i+1,by simpa using a,by rw[zo4,b];simp;omega⟩
 | false::m,p,h=>by
  obtain⟨i,a,b⟩:=zqU m p (by simpa using h);exact⟨i+1,by simpa using a,by rw[zo4,b];simp⟩
def zIp{f:List af}{m:List Bool}{i:Nat}{x:af}(d:f.length=m.length)(e:f[i]?=some x)(g:m[i]?=some true):(ej f m)[bQ m i]?=some (ma (m.drop (i+1)) x):=by
 have a:=Uj f m i d;obtain⟨h,j⟩:=aag.1 e;obtain⟨k,l⟩:=aag.1 g;have b:=aaj h;have c:=aaj k;rw[j] at b;rw[l] at c;rw[b,c,ej] at a
 have n:((ej f m).drop (bQ m i))[0]?=some (ma (m.drop (i+1)) x):=by rw[a];rfl
 rwa[aaw,abp] at n
def zEE(m:List Bool){x:af}{o:Nat}(h:o∈aW x):bQ m o∈aW (ma m x):=by
 unfold aW at h |-;rw[JO];split at h
 .cases h
 rename_i c;rw[if_neg c];split at h
 .rename_i a;rw[if_pos a];simp only[aao] at h;subst h;simp[ma,a]
 .rename_i a;rw[if_neg a];split at h
  .rename_i b;rw[if_pos b];simp only[aan,aaD,or_false] at h
   have d:ma m x={ x with jt:=(bQ m x.jt.toNat:Nat),jf:=(bQ m x.jf.toNat:Nat) }:=by rw[ma,if_neg a,if_pos b]
   rw[d]
   rcases h with rfl|rfl<;>simp
  .rename_i b;rw[if_neg b];simp only[aao] at h |-;subst h;exact JN _
def zEF{f:List af}{m:List Bool}(e:oI f m)(g:Qd f m):wm (ej f m):=by
 have a:=LV e;intro p r b;rw[JP f m a] at b;obtain⟨i,k,c⟩:=zqU m p b
 have hi:0<i:=by
  rcases Nat.eq_zero_or_pos i with rfl|h
  .rw[JN] at c;omega
  .exact h
 obtain⟨j,x,o,l,d,n,q⟩:=g i k hi;refine⟨bQ m j,_,_,zIp a l d,zEE (m.drop (j+1)) n,?_⟩;rw[<-c,<-q,zqT,zED d]
def wo(a e b i:Nat){x:af}{o:Nat}(h:o∈aW x):dX a e b i o∈aW (dY a e b i x)\/o=0/\0∈aW (dY a e b i x):=by
 unfold aW at h |-;rw[Lf];split at h
 .cases h
 rename_i f;rw[if_neg f];split at h
 .rename_i c;rw[if_pos c];simp only[aao] at h;subst h;simp[dY,c]
 .rename_i c;rw[if_neg c];split at h
  .rename_i d;rw[if_pos d];left;simp only[aan,aaD,or_false] at h
   have g:dY a e b i x={ x with jt:=(dX a e b i x.jt.toNat:Nat),jf:=(dX a e b i x.jf.toNat:Nat) }:=by rw[dY,if_neg c,if_pos d]
   rw[g]
   rcases h with rfl|rfl<;>simp
  .rename_i d;rw[if_neg d];simp only[aao] at h |-;exact .inr ⟨h,trivial⟩
def zEG{f w:List af}{a n:Nat}(M:dE f=true)(u:sQ f a n=true)(N:0<n)(C:a+n<=f.length)(D:aY w=true)(E:w.length<=n)(v:wm f):wm (fi f a n w):=by
 have F:=S6 (w:=w) C
 have e:∀j x,j<a->f[j]?=some x->(fi f a n w)[j]?=some (dY a (a+n) (n-w.length) j x):=λj x b c=>by
  have:=congrArg (λl=>l[0]?) (zp7 (w:=w) (n:=n) b c);simpa[aaw] using this
 have G:∀j x,a+n<=j->f[j]?=some x->(fi f a n w)[j-(n-w.length)]?=some x:=λj x b c=>by
  have:=congrArg (λl=>l[0]?) (zp8 (f:=f) (w:=w) (a:=a) E b);simp only[aaw,abp] at this;rw[this];exact c
 have k:∀j,j<w.length->(fi f a n w)[a+j]?=w[j]?:=λj b=>by
  have:=congrArg (λl=>l[j]?) (zti f w a n);simp only[aaw] at this;rw[this,List.getElem?_append_left b]
 have H:∀x∈w,0∈aW x:=λx c=>by
  obtain⟨m,p,q,r⟩:=Qe (IZ D x c);simp[aW,gu,m,p,q,r]
 have ahead:∀j x o,j<a->f[j]?=some x->o∈aW x->j+1+o<=a->Prd (fi f a n w) (j+1+o):=λj x o b c I J=>by
  refine⟨j,_,o,e j x b c,?_,rfl⟩
  have s:dX a (a+n) (n-w.length) j o=o:=by unfold dX;rw[if_neg an]
  rcases wo a (a+n) (n-w.length) j I with h|⟨h,y⟩
  .rw[s] at h;exact h
  .rw[h];exact y
 intro i hi K;rw[F] at K
 by_cases O:i<=a
 .obtain⟨j,x,o,g,d,z⟩:=v i hi an;rw[<-z];exact ahead j x o an g d an
 by_cases P:i<=a+w.length
 .have t:i-a-1<w.length:=an
  have A:=k (i-a-1) t;rw[aae t] at A;exact⟨a+(i-a-1),_,0,A,H _ (aau t),an⟩
 .obtain⟨j,x,o,g,d,z⟩:=v (i+(n-w.length)) an an
  by_cases B:j<a
  .refine⟨j,_,o-(n-w.length),e j x B g,?_,an⟩
   have s:dX a (a+n) (n-w.length) j o=o-(n-w.length):=by unfold dX;rw[if_pos ⟨B,an⟩]
   rcases wo a (a+n) (n-w.length) j d with h|⟨h,y⟩
   .rw[s] at h;exact h
   .omega
  by_cases Q:j<a+n
  .exfalso
   have L:x∈(f.drop a).take n:=by refine aah (i:=j-a) ?_;rw[aaI,if_pos an,aaw,show a+(j-a)=j by omega];exact g
   simp only[sQ,aab] at u;obtain⟨m,p,q,r⟩:=Qe (IZ u.1 x L)
   have:aW x=[0]:=by simp[aW,gu,m,p,q,r]
   rw[this] at d;simp only[aao] at d;omega
  .exact⟨j-(n-w.length),x,o,G j x an g,d,an⟩
def zCr{v w:List af}{live:Nat}(c:∀x∈v,x.k<4294967296)(d:∀x∈w,x.k<4294967296)(e:aY v=true)(f:aY w=true)
  (h:x6 (aQ [] v).p (aQ (aQ [] v).L w).p (aQ [] v).st (aQ (aQ [] v).L w).st live=true):kj v v.length=kj w w.length:=by
 have b:=(zo2.1 h).2;have a:(sA 0).ok:=zM8 ag7;have g:=Cp Inv.nil v c;have i:=(Uk Inv.nil a zC0 c e);have j:=Uk g.ext.inv a zC0 d f;have l:=i.num;have m:=j.num;rw[<-l,<-m,b]
def zjW{w:List af}:kj w w.length=0↔∀x∈w,x.op≠60:=by rw[kj,aaA,List.countP_eq_zero];simp
def zCs:∀a b:List UInt8,Op.bytesLess a b=false->a≠b->Op.bytesLess b a=true
 | [],[],_,h=>absurd rfl h
 | [],_::_,h,_=>by simp[Op.bytesLess] at h
 | _::_,[],_,_=>by simp[Op.bytesLess]
 | x::a,y::b,h,d=>by
  simp only[Op.bytesLess,aba,Bool.and_eq_false_iff,decide_eq_false_iff_not,beq_eq_false_iff_ne] at h;simp only[Op.bytesLess,aaP,aab,decide_eq_true_eq,beq_iff_eq]
  by_cases e:x=y
  .subst e;exact .inr ⟨rfl,zCs a b (h.2.resolve_left (λh=>h rfl)) (λe=>d (by rw[e]))⟩
  .refine .inl ?_;have c:=h.1;rw[UInt8.not_lt] at c;exact UInt8.lt_of_le_of_ne c (λe'=>e e'.symm)
def zwP:∀a b c:List UInt8,Op.bytesLess a b=true->Op.bytesLess b c=true->Op.bytesLess a c=true
 | _,[],_,h,_=>by cases ‹List UInt8›<;>simp[Op.bytesLess] at h
 | _,_::_,[],_,h=>by simp[Op.bytesLess] at h
 | [],_::_,_::_,_,_=>by simp[Op.bytesLess]
 | x::a,y::b,z::c,e,d=>by
  simp only[Op.bytesLess,aaP,aab,decide_eq_true_eq,beq_iff_eq] at e d |-
  rcases e with e|⟨rfl,e⟩
  .rcases d with d|⟨rfl,d⟩
   .exact .inl (UInt8.lt_trans e d)
   .exact .inl e
  .rcases d with d|⟨rfl,d⟩
   .exact .inl d
   .exact .inr ⟨rfl,zwP a b c e d⟩
structure TR where
 fr:List af
 to:List af
 lv:Nat
def Um(k:Nat):List UInt8:=(aaT 4).map λi=>aap (k/2^(8*i)%256)
def acb(x:af):List UInt8:=[aap (x.op.toNat%256),aap (x.op.toNat/256%256),aap (x.jt.toNat%256),aap (x.jf.toNat%256)]++Um x.k
def Fe(w:List af):List UInt8:=w.flatMap acb
def TR.by(r:TR):List UInt8:=Um r.lv++([aap (r.fr.length%256),aap (r.to.length%256)]++(Fe r.fr++Fe r.to))
def TR.may(r:TR):Bool:=aY r.fr&&aY r.to&&decide (r.to.length<r.fr.length)&&decide (r.lv<262144)
def x7(a b:TR):Bool:=Op.bytesLess a.by b.by
def vh:List TR->Bool
 | []=>true
 | [_]=>true
 | a::b::l=>x7 a b&&vh (b::l)
def ei(t:List TR):Bool:=t.all TR.may&&vh t&&decide (t.length<=64)
def qh(t:List TR)(r:TR):Nat:=(t.takeWhile λy=>x7 y r).length
def rR(t:List TR)(r:TR):Bool:=match t[qh t r]? with
 | some y=>decide (y.by=r.by)
 | none=>false
def rS(t:List TR)(r:TR):List TR×Int :=
 if(ei t&&r.may)=true then if rR t r=true then(t,0) else if t.length=64 then(t,3) else(t.take (qh t r)++r::t.drop (qh t r),0)
 else(t,1)
def Dz(t:List TR)(w:List af)(live:Nat):Option (List af) :=
 if ei t=true then(t.find? λr=>decide (r.fr=w)&&decide (live%262144=r.lv)).map TR.to else none
def zCt{a:TR}{t:List TR}(h:vh (a::t)=true):vh t=true:=by
 cases t with
 | nil=>rfl
 | cons b l=>simp only[vh,aab] at h;exact h.2
def zs7{a:TR}:∀{t:List TR},vh (a::t)=true->∀b∈t,x7 a b=true
 | [],_,b,hb=>by cases hb
 | c::t,h,b,hb=>by
  simp only[vh,aab] at h
  rcases aan.1 hb with rfl|hb
  .exact h.1
  .exact zwP _ _ _ h.1 (zs7 h.2 b hb)
def zuq{a:TR}{t:List TR}(h:∀b,t.head?=some b->x7 a b=true)(c:vh t=true):vh (a::t)=true:=by
 cases t with
 | nil=>rfl
 | cons b l =>
  simp only[vh,aab];exact⟨h b rfl,c⟩
def zwQ:∀{t:List TR} {r:TR},vh t=true->rR t r=false->vh (t.take (qh t r)++r::t.drop (qh t r))=true
 | [],r,_,_=>by simp[qh,vh]
 | a::t,r,h,c=>by
  cases e:x7 a r with
  | true =>
   have d:qh (a::t) r=qh t r+1:=by simp[qh,e]
   have g:rR t r=false:=by rw[rR,d,List.getElem?_cons_succ] at c;exact c
   have i:=zwQ (zCt h) g;rw[d,List.take_succ_cons,List.drop_succ_cons,List.cons_append];refine zuq (λb f=>?_) i;have hm:b∈t.take (qh t r)++r::t.drop (qh t r):=List.mem_of_mem_head? f;rw[aax,aan] at hm
   rcases hm with hm|rfl|hm
   .exact zs7 h b (aaG hm)
   .exact e
   .exact zs7 h b (aar hm)
  | false =>
   have d:qh (a::t) r=0:=by simp[qh,e]
   rw[d,aa3,aa4,List.nil_append];refine zuq (λb f=>?_) h;simp only[List.head?_cons,abt.injEq] at f;subst f;rw[rR,d] at c;simp only[aa1,decide_eq_false_iff_not] at c;exact zCs _ _ e c
def zwR(t:List TR)(r:TR):qh t r<=t.length:=by unfold qh;exact(List.takeWhile_prefix _).length_le
def zwS{t:List TR}{r:TR}(d:ei t=true)(e:r.may=true):ei (rS t r).1=true/\t.length<=(rS t r).1.length/\(rS t r).1.length<=t.length+1/\(∀x∈(rS t r).1,x∈t\/x=r):=by
 unfold rS;rw[d,e,if_pos (show(true&&true)=true from rfl)];have c:ei t=true/\t.length<=t.length/\t.length<=t.length+1/\(∀x∈t,x∈t\/x=r):=⟨d,aaq _,an,λx b=>.inl b⟩;split
 .exact c
 rename_i i;split
 .exact c
 rename_i k;have l:=zwR t r;simp only[ei,aab,decide_eq_true_eq] at d;obtain⟨⟨f,j⟩,m⟩:=d
 have a:(t.take (qh t r)++r::t.drop (qh t r)).length=t.length+1:=by simp only[aai,aaY,aal,aaH];omega
 have g:∀x∈t.take (qh t r)++r::t.drop (qh t r),x∈t\/x=r:=λx b=>by
  rw[aax,aan] at b
  rcases b with b|rfl|b
  .exact .inl (aaG b)
  .exact .inr rfl
  .exact .inl (aar b)
 refine⟨?_,by rw[a];omega,by rw[a];exact aaq _,g⟩;simp only[ei,aab,decide_eq_true_eq];refine⟨⟨?_,zwQ j (by simpa using i)⟩,by rw[a];omega⟩;rw[aak] at f |-;intro x b
 rcases g x b with h|rfl
 .exact f x h
 .exact e
def LL(a:Nat):eP .u8 (a:Int)=((a%256:Nat):Int):=by unfold eP;simp[IntKind.wrap,IntKind.bits,IntKind.signed]
def nG(x:af):List Nat:=[x.op.toNat%256,x.op.toNat/256%256,x.jt.toNat%256,x.jf.toNat%256]++cT x.k 4
def zwT(x:af):(nG x).length=8:=by simp[nG,cT]
def kR(w:List af):List Nat:=w.flatMap nG
def Dv:∀w:List af,(kR w).length=8*w.length
 | []=>rfl
 | x::w=>by rw[kR,List.flatMap_cons,aai,zwT,<-kR,Dv w,aaY];omega
def zAj(w:List af)(x:af):kR (w++[x])=kR w++nG x:=by simp[kR]
def zwU(w:List af):Fe w=(kR w).map aap:=by
 rw[Fe,kR,List.map_flatMap]
 congr 1
def zur{x:af}(h:jv x=true):(0<=x.op/\x.op<=255)/\(0<=x.jt/\x.jt<=255)/\0<=x.jf/\x.jf<=255:=by
 cases a:oJ x.op with
 | none=>simp[jv,a] at h
 | some r =>
  obtain⟨c,d⟩:=Gt a
  have e:∀r∈o9,0<=r.1/\r.1<=255:=by decide
  have b:=e r d;rw[c] at b;refine⟨b,?_⟩;rw[jv,a] at h;simp only[aab] at h;obtain⟨_,h⟩:=h;split at h
  .simp only[decide_eq_true_eq] at h;omega
  .simp only[decide_eq_true_eq] at h;omega
def zEH[aA G][eA G](w:List af)(l:w.length<=4096)(m:∀x∈w,x.k<4294967296)(d:∀x∈w,jv x=true):FP G 350 [FL w] (.int .i64 0):=by
 refine bt eA.afo (aaf rfl) ?_;have e:((4096:Int)<(w.length:Int))=False:=ag6;simp[FL,e];refine aM w.length (λi=>[(8,FL w),(9,.int .i64 w.length),(10,.int .i64 i)]) (λ_=>[]) (λ_=>True) ?_ ?_
 .simp[aw,ak,FL]
 intro i hi _
 by_cases a:i<w.length
 .obtain⟨x,b⟩:=bb (w[i]);have c:=rG a;rw[<-b] at c;have f:=d x (by rw[b];exact aau a);have g:x.cs.length=4:=rfl;have h:x.cs.take 4=x.cs:=rfl;simp(disch:=omega)[bC,FL,c,g,h];refine au (K7 x) ?_;simp(disch:=omega)[f,a,bD,aw,ak,-aad]
 .have j:i=w.length:=an
  subst j;simp
def zoV[aA G][eA G](w:List af)(z:w.length<=4096)(m:∀x∈w,x.k<4294967296)(n:∀x∈w,jv x=true):FP G 351 [FL w] (.a_ [.vs (aj .u8 (kR w)) .no,.int .i64 0]):=by
 refine bt eA.afp (aaf rfl) ?_;have A:=zEH (G:=G) w z m n;simp[FL];refine au A ?_;simp;obtain⟨T,a⟩:∃T:Nat->List Nat,∀j,T j=kR (w.take j):=⟨_,λ_=>rfl⟩
 have B:T 0=[]:=by rw[a];rfl
 refine aM w.length (λi=>[(5,.vs (aj .u8 (T i)) (.own 0)),(14,FL w),(15,.int .i64 w.length),(16,.int .i64 i)]) (λi=>[some (.zone (T i).length)]) (λ_=>True) ?_ ?_
 .simp[aw,ak,FL,B]
 intro i hi _
 by_cases b:i<w.length
 .obtain⟨x,e⟩:=bb (w[i]);have p:=rG b;rw[<-e] at p;have O:x.k<4294967296:=m x (by rw[e];exact aau b);obtain⟨P,Q,R⟩:=zur (n x (by rw[e];exact aau b))
  have C:T (i+1)=T i++nG x:=by rw[a,a,aat,aae b,abl,zAj,e]
  have q:(T i).length=8*i:=by rw[a,Dv,aal];omega
  obtain⟨o,r⟩:∃o:Nat,x.op=o:=⟨x.op.toNat,an⟩;obtain⟨c,s⟩:∃o:Nat,x.jt=o:=⟨x.jt.toNat,an⟩;obtain⟨d,t⟩:∃o:Nat,x.jf=o:=⟨x.jf.toNat,an⟩;obtain⟨k,u⟩:∃k,x.k=k:=⟨_,rfl⟩
  have D:x.cs=[.int .i64 o,.int .i64 c,.int .i64 d,.int .u32 k]:=by rw[af.cs,r,s,t,u]
  have E:nG x=[o%256,o/256%256,c%256,d%256]++cT k 4:=by rw[nG,r,s,t,u];rfl
  have f:jV .i64 (o:Int) 8=((o/256:Nat):Int):=Ag (j:=8) ag7;obtain⟨U,g⟩:∃U:List Nat,U=T i++[o%256,o/256%256,c%256,d%256]:=⟨_,rfl⟩
  have v:U.length=8*i+4:=by rw[g,aai,q];rfl
  have F:aj .u8 (T i)++[[V.int .u8 (o%256:Nat)],[V.int .u8 (o/256%256:Nat)],[V.int .u8 (c%256:Nat)],[V.int .u8 (d%256:Nat)]]=aj .u8 U:=by rw[g];simp[aj]
  simp(disch:=omega)[bC,FL,p,D,LL,f,F,q,az,-aad,-aaZ,-aav]
  refine aM 4 (λj=>[(5,.vs (aj .u8 (U++cT k j)) (.own 0)),(7,.ptr 1 0),(14,FL w),(15,.int .i64 w.length),(16,.int .i64 i),(36,.int .i64 j)])
   (λj=>[some (.zone (8*i+4+j)),some (.cells [.int .i64 o,.int .i64 c,.int .i64 d,.int .u32 k]),none]) (λ_=>True) ?_ ?_
  .have H:cT k 0=[]:=rfl;simp[aw,ak,FL,H]
  intro j S _
  by_cases h:j<4
  .have I:dN .i64 8 (j:Int)=((8*j:Nat):Int):=by unfold dN;exact IntWalk.i64_in _ ⟨an,an⟩
   have J:jV .u32 (k:Int) ((8*j:Nat):Int)=((k/256^j:Nat):Int):=by rw[A_ an,Nat.pow_mul]
   have K:(((8*j:Nat):Int)<0)=False:=ag6
   have L:aj .u8 (U++cT k j)++[[V.int .u8 (k/256^j%256:Nat)]]=aj .u8 (U++cT k (j+1)):=by rw[ztO];simp[aj]
   have M:(U++cT k j).length=8*i+4+j:=by rw[aai,v,BI]
   simp(disch:=omega)[bC,K,I,J,LL,L,M,az,bD,h,aw,ak,FL,-aad,-Int.natCast_mul,-aaZ,-aav,-Int.natCast_pow];omega
  .have l:j=4:=an
   subst l
   have y:U++cT k 4=T (i+1):=by rw[C,E,g,aaC]
   have N:(T (i+1)).length=8*i+4+4:=by rw[<-y,aai,v,BI]
   simp(disch:=omega)[y,N,b,bD,aw,ak,FL,-aad]
 .have l:i=w.length:=an
  subst l
  have:T w.length=kR w:=by rw[a,aaA]
  simp[this]
def TR.cs(r:TR):List V:=[.vs (IL r.fr) .no,.vs (IL r.to) .no,.int .u32 r.lv]
def TV(r:TR):V:=.agg r.cs
def TL(t:List TR):List (List V):=t.map TR.cs
def TF(t:List TR):V:=.vs (TL t) .no
@[simp] theorem zNE (t:List TR):(TL t).length=t.length:=by simp[TL]
theorem JD{t:List TR}{i:Nat}{r:TR}(h:t[i]?=some r):(TL t)[i]?=some r.cs:=by simp[TL,h]
def TR.ok(r:TR):Prop:=r.fr.length<=maxLen/\r.to.length<=maxLen/\(∀x∈r.fr,x.k<4294967296)/\(∀x∈r.to,x.k<4294967296)/\r.lv<4294967296
def PJ:∀l:List Nat,(∀b∈l,b<256)->CC (aj .u8 l)=some (l.map aap)
 | [],_=>rfl
 | b::l,h=>by
  have a:=PJ l λc d=>h c (by simp[d]);simp only[aj] at a;simp[aj,CC,a]
def LW{w:List af}(h:aY w=true):w.length<=32/\∀x∈w,jv x=true:=by simp only[aY,aab,decide_eq_true_eq,aak,mO] at h;exact⟨h.1,λx a=>(h.2 x a).1.2⟩
def zyW{x:af}:∀b∈nG x,b<256:=by
 intro b a;simp only[nG,cT,aax,aan,aaD,or_false,aa0,aa5] at a
 rcases a with(rfl|rfl|rfl|rfl)|⟨j,_,rfl⟩<;>exact aaX _ ag7
def TR.tM(r:TR):List Nat:=cT r.lv 4++[r.fr.length%256,r.to.length%256]++kR r.fr++kR r.to
def zCu(r:TR):r.by=r.tM.map aap:=by
 have a:Um r.lv=(cT r.lv 4).map aap:=by simp[Um,cT,aaT,aaT.loop]
 rw[TR.by,TR.tM,a,zwU,zwU];simp
def zwV(r:TR):∀b∈r.tM,b<256:=by
 intro b a;simp only[TR.tM,aax,aan,aaD,or_false,kR,List.mem_flatMap] at a
 rcases a with((a|rfl|rfl)|⟨x,_,a⟩)|⟨x,_,a⟩
 .simp only[cT,aa0,aa5] at a;obtain⟨j,_,rfl⟩:=a;exact aaX _ ag7
 .exact aaX _ ag7
 .exact aaX _ ag7
 .exact zyW b a
 .exact zyW b a
def zus[aA G][aB G][aO G][cQ G](r:TR)(h:r.ok):FP G 352 [TV r] (.bool r.may):=by
 refine bt cQ.afq (aaf rfl) ?_;obtain⟨i,j,k,l,m⟩:=h;have e:=BE (G:=G) r.fr i k;have f:=BE (G:=G) r.to j l;simp only[FL] at e f;simp[TV,TR.cs];refine au e ?_
 cases a:aY r.fr with
 | false=>simp[TR.may,a]
 | true =>
  simp;refine au f ?_
  cases b:aY r.to with
  | false=>simp[TR.may,a,b]
  | true =>
   by_cases c:r.to.length<r.fr.length
   .by_cases g:r.lv<262144
    .have d:((r.lv:Int)<262144)=True:=ag5;simp[TR.may,a,b,c,g,d]
    .have d:((r.lv:Int)<262144)=False:=ag6;simp[TR.may,a,b,c,g,d]
   .simp[TR.may,a,b,c]
def SE(G:aK)(f:Nat)(args:List V)(H:ae)(r:V):Prop:=∃H1,bE G (.F f args H r H1)/\ak H.length H1=H
def zFC{f b:Nat}{body:bc}{a:List jx}{args:List V}{r:V}{H:ae}(d:G f=some ⟨b,body,a⟩)(e:args.length<=b)
  (h:W G body [] (ig (qv 0 args)) H (QX a λg H1=>g=r/\ak H.length H1=H)):SE G f args H r:=by
 obtain⟨x,m,H1,c,i,vs,j,k,l⟩:=h;rw[<-Nt] at c;rw[<-k];exact⟨_,.fn d e c i j,l⟩
def SE.vcall{f:Nat}{cap args:List V}{r:V}{H:ae}{base:Nat}{d:Option Nat}{os:List aE}{K:List Kt}{e:Env}{Q:Ex->Env->ae->Prop}{ro:Bool}(h:SE G f (args++cap) H r)(b:r.cl H.length=r)
  (c:WO G base os K (e.put d r) H Q):KI G ro (.fn f cap) args base d os K e H Q:=by
 obtain⟨H1,g,a⟩:=h;refine kY g (λ_=>a) ?_;rw[b,a];exact c
def SE.scall{f:Nat}{args:List V}{r:V}{H:ae}{base:Nat}{d:Option Nat}{os:List aE}{K:List Kt}{e:Env}{Q:Ex->Env->ae->Prop}(h:SE G f args H r)(a:r.cl H.length=r)
  (b:WO G base os K (e.put d r) H Q):RT G f args base d os K e H Q:=by
 obtain⟨H1,c,g⟩:=h;refine zE c ?_;rw[a,g];exact b
def PO[aA G][eA G][cQ G](r:TR)(C:r.ok)(p:r.may=true)(H:ae)(q:im H):SE G 353 [TV r] H (.str r.by):=by
 refine zFC cQ.afr (aaf rfl) ?_;have d:=KB q;have E:∀s:ae,ak H.length (H++s)=H:=λs=>q.back s;obtain⟨S,T,F,I,U⟩:=C;simp only[TR.may,aab,decide_eq_true_eq] at p;obtain⟨⟨⟨J,K⟩,_⟩,_⟩:=p;obtain⟨W,L⟩:=LW J;obtain⟨X,M⟩:=LW K;have t:=zoV (G:=G) r.fr an F L;have u:=zoV (G:=G) r.to an I M;simp only[FL] at t u;obtain⟨v,f⟩:∃v,r.lv=v:=⟨_,rfl⟩;have N:jV .u32 (v:Int) 8=((v/256:Nat):Int):=A_ (j:=8) ag7
 have O:jV .u32 (v:Int) 16=((v/65536:Nat):Int):=A_ (j:=16) ag7;have P:jV .u32 (v:Int) 24=((v/16777216:Nat):Int):=A_ (j:=24) ag7;obtain⟨B,e⟩:∃B:List Nat,B=cT v 4++[r.fr.length%256,r.to.length%256]:=⟨_,rfl⟩
 have x:B.length=6:=by rw[e];simp[cT]
 have k:[[V.int .u8 (v%256:Nat)],[V.int .u8 (v/256%256:Nat)],[V.int .u8 (v/65536%256:Nat)],[V.int .u8 (v/16777216%256:Nat)],[V.int .u8 (r.fr.length%256:Nat)],[V.int .u8 (r.to.length%256:Nat)]]=aj .u8 B:=by rw[e];simp[aj,cT,aaT,aaT.loop]
 simp(disch:=omega)[lD,TV,TR.cs,f,N,O,P,LL,k,-aaZ,-aav]
 obtain⟨D,g⟩:∃D:Nat->List Nat,∀j,D j=if j=0 then B else if j=1 then B++kR r.fr else B++kR r.fr++kR r.to:=⟨_,λ_=>rfl⟩
 have a:D 0=B:=by rw[g];rfl
 have c:D 1=B++kR r.fr:=by rw[g];rfl
 have m:D 2=r.tM:=by rw[g,TR.tM,f,e];rfl
 have n:(D 1).length=6+8*r.fr.length:=by rw[c,aai,x,Dv]
 have Q:(D 2).length=6+8*r.fr.length+8*r.to.length:=by rw[m,TR.tM,aai,f,<-e,<-c,n,Dv]
 have p1:aj .u8 B++aj .u8 (kR r.fr)=aj .u8 (D 1):=by rw[c];simp[aj]
 have p2:aj .u8 (D 1)++aj .u8 (kR r.to)=aj .u8 (D 2):=by rw[c,g];simp[aj]
 have q1:(kR r.fr).length=8*r.fr.length:=Dv _;have R:(kR r.to).length=8*r.to.length:=Dv _
 have n1:∀l:List Nat,(aj .u8 l=[])=(l=[]):=λl=>by simp[aj]
 have i:∀w:List af,(kR w=[])=(w=[]):=λw=>propext ⟨λh=>List.eq_nil_of_length_eq_zero (by have:=Dv w;rw[h] at this;simp at this;omega),λh=>by rw[h];rfl⟩;have y:=PJ r.tM (zwV r);rw[<-zCu,<-m] at y
 refine aM 2 (λj=>[(3,.vs (aj .u8 (D j)) (.own (H.length+1))),(36,.agg [.vs (IL r.fr) .no,.vs (IL r.to) .no]),(37,.int .i64 j)])
  (λj=>H++[some (.cells [.vs (IL r.fr) .no,.vs (IL r.to) .no,.int .u32 v]),some (.zone (D j).length)]) (λ_=>True) ?_ ?_
 .simp[aw,d,a]
 have z:aD .i64 0 1=1:=by rw[eG]<;>omega
 have A:aD .i64 1 1=2:=by rw[eG]<;>omega
 intro j Y _
 rcases(show j=0\/j=1\/j=2 by omega) with rfl|rfl|rfl
 .simp;refine au t ?_
  by_cases b:r.fr=[]
  .have o:D 1=B:=by rw[c,b];simp[kR]
   simp(disch:=omega)[a,n1,i,b,o,aw,d,z]
  .simp(disch:=omega)[a,n1,i,b,x,q1,n,p1,az,aw,d,iC,z]
 .simp;refine au u ?_
  by_cases b:r.to=[]
  .have o:D 2=D 1:=by rw[m,TR.tM,f,<-e,<-c,b];simp[kR]
   simp(disch:=omega)[n1,i,b,o,aw,d,A]
  .simp(disch:=omega)[n1,i,b,R,n,Q,p2,az,aw,d,iC,A]
 .simp[y,E]
def zyX{v:V}(h:Fw (.agg [.int .i64,.int .i64,.int .i64]) v):∃a b c:Int,v=.agg [.int .i64 a,.int .i64 b,.int .i64 c]:=by unfold Fw at h;obtain⟨f,rfl,h⟩:=h;simp only[ib,uR] at h;obtain⟨a,_,rfl,⟨n1,rfl,g⟩,b,_,rfl,⟨d,rfl,i⟩,c,_,rfl,⟨e,rfl,j⟩,rfl⟩:=h;exact⟨n1,d,e,rfl⟩
def zyY{v:V}(h:Fw .str v):∃s:List UInt8,v=.str s:=by have h:ib .str [v]:=h;rw[ib] at h;obtain⟨s,a,_⟩:=h;simp only[abw.injEq,and_true] at a;exact⟨s,a⟩
def zGU{n:Int}(h:(Lit.int .u8 n).wf=true):0<=n/\n<256:=by simp[Lit.wf,IntKind.min,IntKind.max,IntKind.signed,IntKind.bits] at h;omega
def zut:∀{es:List (List V)},(∀x∈es,ib (.int .u8) x)->∃b:List Nat,es=aj .u8 b/\∀x∈b,x<256
 | [],_=>⟨[],rfl,ir⟩
 | e::es,h=>by
  obtain⟨n,rfl,c⟩:=U4 (h e ir);obtain⟨f,g⟩:=zGU c;obtain⟨b,rfl,d⟩:=zut (es:=es) λy a=>h y (by simp[a]);refine⟨n.toNat::b,by simp[aj];omega,λy a=>?_⟩
  rcases aan.1 a with rfl|a
  .omega
  .exact d y a
def zwW{v:V}(h:Fw (.sl (.int .u8)) v):∃b:List Nat,v=.vs (aj .u8 b) .no/\∀x∈b,x<256:=by have h:ib (.sl (.int .u8)) [v]:=h;rw[ib] at h;obtain⟨e,a,f,c⟩:=h;obtain⟨b,rfl,d⟩:=zut c;simp only[abw.injEq,and_true] at a;exact⟨b,a,d⟩
def SE.fp{f:Nat}{args:List V}{s:List UInt8}(h:SE G f args [] (.str s)):FP G f args (.str s):=by obtain⟨H1,a,_⟩:=h;exact⟨_,_,a,ir⟩
def zoW:im []:=λ_ _=>rfl
def zs8:∀{t:List TR},vh t=true↔∀(j:Nat) (a b:TR),t[j]?=some a->t[j+1]?=some b->x7 a b=true
 | []=>by simp[vh]
 | [a]=>by simp[vh]
 | a::b::l=>by
  rw[vh,aab,zs8 (t:=b::l)];constructor
  .rintro⟨e,f⟩ j x y c d
   cases j with
   | zero=>simp at c d;rw[<-c,<-d];exact e
   | succ j=>exact f j x y (by simpa using c) (by simpa using d)
  .intro h;exact⟨h 0 a b rfl rfl,λj x y c d=>h (j+1) x y (by simpa using c) (by simpa using d)⟩
def Qg(t:List TR)(i:Nat):Prop:=∀j<i,∀r,t[j]?=some r->r.may=true/\∀q,0<j->t[j-1]?=some q->x7 q r=true
def zGV{t:List TR}(h:Qg t t.length):ei t=decide (t.length<=64):=by
 have e:t.all TR.may=true:=by rw[aak];intro r f;obtain⟨j,c⟩:=aay f;exact(h j (aag.1 c).1 r c).1
 have g:vh t=true:=zs8.2 λj a b i d=>(h (j+1) (aag.1 d).1 b d).2 a an (by simpa using i);simp[ei,e,g]
def PN{t:List TR}(h:ei t=true):Qg t t.length/\t.length<=64:=by simp only[ei,aab,decide_eq_true_eq] at h;obtain⟨⟨b,c⟩,d⟩:=h;refine⟨λj f r a=>⟨aak.1 b r (aah a),λq g e=>?_⟩,d⟩;exact zs8.1 c (j-1) q r e (by rw[show j-1+1=j by omega];exact a)
def zyZ{t:List TR}{i:Nat}{r:TR}(a:t[i]?=some r)(h:r.may=false\/∃q,0<i/\t[i-1]?=some q/\x7 q r=false):ei t=false:=by
 cases d:ei t with
 | false=>rfl
 | true =>
  obtain⟨b,e⟩:=(PN d).1 i (aag.1 a).1 r a
  rcases h with h|⟨q,f,g,c⟩
  .rw[h] at b;cases b
  .have:=e q f g;rw[this] at c;cases c
def PM[aA G][aB G][aO G][eA G][cQ G](t:List TR)(U:t.length<=1000000)(D:∀r∈t,r.ok):FP G 354 [TF t] (.bool (ei t)):=by
 refine bt cQ.afs (aaf rfl) ?_;simp[TF];refine aM t.length (λi=>[(0,TF t),(5,TF t),(6,.int .i64 t.length),(7,.int .i64 i)]) (λ_=>[]) (λi=>Qg t i) ?_ ?_
 .simp[aw,ak,TF];intro j l;omega
 intro i hi m
 by_cases e:i<t.length
 .obtain⟨x,E⟩:=bb (t[i])
  have a:t[i]?=some x:=by rw[E];exact aae e
  have M:=JD a;have N:x∈t:=aah a;have F:=D x N;have o:x.cs.length=3:=rfl;have p:x.cs.take 3=x.cs:=rfl
  have O:∀n,ba n x.cs=x.cs:=λn=>by simp[TR.cs,ba,V.cl,Tk.cl]
  have P:(TL t)[i]'(by simpa using e)=x.cs:=by simp[TL,E]
  have c:=zus (G:=G) x F;simp(disch:=omega)[bC,TF,M,P,o,p,O];simp only[TV] at c;refine au c ?_
  cases f:x.may with
  | false =>
   have s:=zyZ a (.inl f)
   simp[s]
  | true =>
   by_cases g:0<i
   .obtain⟨q,H⟩:=bb (t[i-1]'(by omega))
    have d:t[i-1]?=some q:=by rw[H];exact aae an
    have u:(TL t)[i-1]'(by simp;omega)=q.cs:=by simp[TL,H]
    have v:=JD d;have w:=(m (i-1) an q d).1;have y:=D q (aah d);have z:q.cs.length=3:=rfl;have A:q.cs.take 3=q.cs:=rfl;have I:=(PO (G:=G) q y w [] zoW).fp;have J:=(PO (G:=G) x F f [] zoW).fp;simp only[TV] at I J
    have Q:bP .i64 (i:Int) 1=((i-1:Nat):Int):=by rw[nQ]<;>omega
    simp(disch:=omega)[g,Q,v,u,z,A,o,p,az,gS];refine au I ?_;simp(disch:=omega)[o,p];refine au J ?_
    cases k:x7 q x with
    | false =>
     have s:=zyZ a (.inr ⟨q,g,d,k⟩);have B:Op.bytesLess q.by x.by=false:=k
     simp[B,s]
    | true =>
     have B:Op.bytesLess q.by x.by=true:=k
     have C:Qg t (i+1):=λj l r b=>by
      rcases aaB.1 l with h|rfl
      .exact m j h r b
      .rw[a] at b;cases b;exact⟨f,λW _ K=>by rw[d] at K;cases K;exact k⟩
     simp(disch:=omega)[B,e,bD,aw,ak,TF,-aad];exact C
   .have R:i=0:=an
    subst R
    have C:Qg t 1:=λj l r b=>by
     have:j=0:=an
     subst this;rw[a] at b;cases b;exact⟨f,λq g=>absurd g an⟩
    have S:aD .i64 0 1=1:=by rw[eG]<;>omega
    simp(disch:=omega)[aw,ak,TF,S,e,C]
 .have T:i=t.length:=an
  subst T;have:=zGV m
  by_cases L:t.length<=64
  .have h:((t.length:Int)<=64)=True:=ag5;simp[this,L,h,TF]
  .have h:((t.length:Int)<=64)=False:=ag6;simp[this,L,h,TF]
def zs9[cQ G](r:TR)(c:r.fr.length<=1000000)(d:r.to.length<=1000000):FP G 356 [TV r] (TV r):=by
 refine bt cQ.afu (aaf rfl) ?_
 have e:r.fr.length*32<=140737488355328:=an
 have f:r.to.length*32<=140737488355328:=an
 by_cases a:r.fr=[]<;>by_cases b:r.to=[] <;>
  simp(disch:=omega)[TV,TR.cs,zzd,a,b,az]
def zEI{t:List TR}{x y:TR}{i:Nat}(h:∀j<i,∀z,t[j]?=some z->x7 z x=true)(b:t[i]?=some y)(c:x7 y x=false):qh t x=i:=by
 induction t generalizing i with
 | nil=>simp at b
 | cons a t d =>
  cases i with
  | zero=>simp at b;subst b;simp[qh,c]
  | succ i =>
   have e:=h 0 an a rfl;have:=d (i:=i) (λj g z f=>h (j+1) an z (by simpa using f)) (by simpa using b);simp only[qh] at this |-;simp[e,this]
def zCv{t:List TR}{x:TR}(h:∀z∈t,x7 z x=true):qh t x=t.length:=by
 induction t with
 | nil=>rfl
 | cons a t b =>
  have:=b λz c=>h z (by simp[c]);simp only[qh] at this |-;simp[h a ir,this]
def zCw[aA G][eA G][cQ G](t:List TR)(x:TR)(U:t.length<=1000000)(M:∀r∈t,r.ok)(N:∀r∈t,r.may=true)(O:x.ok)(P:x.may=true)(H:ae)(p:im H) :
  SE G 355 [TF t,TV x,.fn 353 []] H (.a_ [.int .i64 (qh t x:Nat),.bool (rR t x)]):=by
 refine zFC cQ.aft (aaf rfl) ?_;have J:=KB p;have K:∀s:ae,ak H.length (H++s)=H:=λs=>p.back s;have e:x.cs.length=3:=rfl;have f:x.cs.take 3=x.cs:=rfl
 have q:∀n,ba n x.cs=x.cs:=λn=>by simp[TR.cs,ba,V.cl,Tk.cl]
 have u:=λs v=>PO (G:=G) x O P s v;simp only[TV] at u;simp[TF,TV,lD,iC,zF,xq];refine aM t.length (λi=>[(0,TF t),(2,.fn 353 []),(4,.ptr H.length 0),(10,TF t),(11,.int .i64 t.length),(12,.int .i64 i)]) (λ_=>H++[some (.cells x.cs)]) (λi=>∀j<i,∀z,t[j]?=some z->x7 z x=true) ?_ ?_
 .simp[aw,TF,J,ax.cl,q]
 intro i hi w
 by_cases A:i<t.length
 .obtain⟨y,L⟩:=bb (t[i])
  have b:t[i]?=some y:=by rw[L];exact aae A
  have Q:=JD b;have B:=N y (aah b);have C:=M y (aah b);have g:y.cs.length=3:=rfl;have k:y.cs.take 3=y.cs:=rfl
  have ky:∀n,ba n y.cs=y.cs:=λn=>by simp[TR.cs,ba,V.cl,Tk.cl]
  have R:(TL t)[i]'(by simpa using A)=y.cs:=by simp[TL,L]
  have D:=λs v=>PO (G:=G) y C B s v;simp only[TV] at D
  have l:im (H++[some (.cells x.cs),some (.cells y.cs)]):=p.app λn=>by simp[ax.cl,q,ky]
  have E:¬H.length+2<=H.length:=an
  have F:¬H.length+2<=H.length+1:=an
  simp(disch:=omega)[bC,TF,Q,R,g,k,e,f,lD,iC,zF,xq];refine SE.vcall (args:=[.agg y.cs]) (cap:=[]) (D _ l) rfl ?_;simp(disch:=omega)[F,E,g,k,e,f,lD,iC,zF,xq];refine SE.vcall (args:=[.agg x.cs]) (cap:=[]) (u _ l) rfl ?_
  cases m:x7 y x with
  | true =>
   have I:Op.bytesLess y.by x.by=true:=m
   have S:∀j<i+1,∀z,t[j]?=some z->x7 z x=true:=λj o z c=>by
    rcases aaB.1 o with h|rfl
    .exact w j h z c
    .rw[b] at c;cases c;exact m
   simp(disch:=omega)[I,A,bD,aw,J,ax.cl,q,TF,-aad]
   exact S
  | false =>
   have I:Op.bytesLess y.by x.by=false:=m;have d:=zEI w b m
   have a:rR t x=decide (y.by=x.by):=by rw[rR,d,b]
   simp(disch:=omega)[I,F,E,g,k,e,f,lD,iC,zF,xq];refine SE.vcall (args:=[.agg y.cs]) (cap:=[]) (D _ l) rfl ?_;simp(disch:=omega)[F,E,g,k,e,f,lD,iC,zF,xq];refine SE.vcall (args:=[.agg x.cs]) (cap:=[]) (u _ l) rfl ?_;simp[K,d,a];exact Bool.eq_iff_iff.2 ir
 .have T:i=t.length:=an
  subst T
  have d:=zCv (t:=t) (x:=x) λz c=>by
   obtain⟨j,o⟩:=aay c;exact w j (aag.1 o).1 z o
  have a:rR t x=false:=by rw[rR,d,List.getElem?_eq_none (aaq _)]
  simp[TF,K,d,a]
def zEJ[cQ G](f g:List af)(r:f.length<=1000000):FP G 358 [FL f,FL g] (.bool (decide (f=g))):=by
 refine bt cQ.afw (aaf rfl) ?_
 by_cases c:f.length=g.length
 .have j:((f.length:Int) !=(g.length:Int))=false:=by simp[c]
  simp[FL,j];refine aM f.length (λi=>[(0,FL f),(1,FL g),(12,.int .i64 f.length),(13,.int .i64 i)]) (λ_=>[]) (λi=>f.take i=g.take i) ?_ ?_
  .simp[aw,ak,FL,c]
  intro i hi k
  by_cases l:i<f.length
  .obtain⟨x,a⟩:=bb (f[i])
   have p:i<g.length:=an
   obtain⟨y,b⟩:=bb (g[i]);have m:=rG l;have n:=rG p;rw[<-a] at m;rw[<-b] at n;have a:=a.symm;have b:=b.symm;have d:=BG x y
   by_cases e:x=y
   .rw[decide_eq_true e] at d
    have q:f.take (i+1)=g.take (i+1):=by rw[aat,aat,k,aae l,aae p,a,b,e]
    simp(disch:=omega)[bC,FL,m,n,a,b,d,l,bD,aw,ak,q,-aad]
   .rw[decide_eq_false e] at d
    have o:¬f=g:=by rintro rfl;exact e (a.symm.trans b)
    simp(disch:=omega)[bC,FL,m,n,a,b,d,o,-aad]
  .have o:i=f.length:=an
   subst o;rw[aaA,c,aaA] at k;simp[FL,k]
 .have j:((f.length:Int) !=(g.length:Int))=true:=by simp;omega
  have:¬f=g:=λh=>c (by rw[h]);simp[FL,j,this]
def PL(t:List TR):(∀f∈TL t,f.length=3)=True:=by simp only[eq_iff_iff,iff_true];intro f a;simp only[TL,aa0] at a;obtain⟨x,_,rfl⟩:=a;rfl
def zta(r:TR):r.cs.all V.pure=true:=by simp[TR.cs]
def TZ(t:List TR)(r:TR):TL t++[r.cs]=TL (t++[r]):=by simp[TL]
def zM9{a:Nat}(h:a<4294967296):jU .u32 (a:Int) 262143=((a%262144:Nat):Int):=by unfold jU;rw[show(262143:Int)=((262143:Nat):Int) from rfl,si,si,BitVec.toNat_and,abm,abm];have b:a%2^IntKind.u32.bits=a:=Nat.mod_eq_of_lt h;have c:262143%2^IntKind.u32.bits=2^18-1:=rfl;rw[b,c,Nat.and_two_pow_sub_one_eq_mod];exact sG (by have:=aaX a (show 0<2^18 by decide);omega)
def pS:Option (List af)->V
 | some x=>.a_ [.vs (IL x) .no,.bool true]
 | none=>.a_ [.vs [] .no,.bool false]
def JC{r:TR}(h:r.may=true):r.fr.length<=32/\r.to.length<=32:=by simp only[TR.may,aab] at h;exact⟨(LW h.1.1.1).1,(LW h.1.1.2).1⟩
def zEK[aA G][aB G][aO G][eA G][cQ G](t:List TR)(w:List af)(live:Nat)(u:t.length<=1000000)(v:∀r∈t,r.ok)(y:live<4294967296) :
  FP G 359 [TF t,FL w,.int .u32 live] (pS (Dz t w live)):=by
 refine bt cQ.afx (aaf rfl) ?_;have a:=PM (G:=G) t u v;simp only[TF] at a;simp[TF];refine au a ?_
 cases d:ei t with
 | false=>simp[Dz,d,pS]
 | true =>
  have z:∀r∈t,r.may=true:=λr a=>by
   simp only[ei,aab] at d;exact aak.1 d.1.1 r a
  simp;refine aM t.length (λi=>[(1,FL w),(2,.int .u32 live),(13,TF t),(14,.int .i64 t.length),(15,.int .i64 i)]) (λ_=>[]) (λi=>∀j<i,∀r,t[j]?=some r->(decide (r.fr=w)&&decide (live%262144=r.lv))=false) ?_ ?_
  .simp[aw,ak,TF,FL]
  intro i hi k
  by_cases e:i<t.length
  .obtain⟨x,l⟩:=bb (t[i])
   have m:t[i]?=some x:=by rw[l];exact aae e
   have A:=JD m;have B:=z x (aah m);obtain⟨F,H⟩:=JC B
   have C:(TL t)[i]'(by simpa using e)=x.cs:=by simp[TL,l]
   have p:=zEJ (G:=G) x.fr w an;simp only[FL] at p;simp(disch:=omega)[bC,TF,FL,A,C,TR.cs];refine au p ?_;have n:=zM9 y
   have next:(decide (x.fr=w)&&decide (live%262144=x.lv))=false->∀j<i+1,∀r,t[j]?=some r->(decide (r.fr=w)&&decide (live%262144=r.lv))=false:=λD j b r a=>by
    rcases aaB.1 b with h|rfl
    .exact k j h r a
    .rw[m] at a;cases a;exact D
   by_cases c:x.fr=w
   .by_cases q:live%262144=x.lv
    .have f:(((live%262144:Nat):Int)==(x.lv:Int))=true:=by simp;omega
     have g:Dz t w live=some x.to:=by
      rw[Dz,d,if_pos rfl]
      have:t.find? (λr=>decide (r.fr=w)&&decide (live%262144=r.lv))=some x:=by rw[List.find?_eq_some_iff_getElem];refine⟨by simp[c,q],i,e,l.symm,λj b=>?_⟩;rw[k j b _ (aae an)];rfl
      rw[this];rfl
     by_cases s:x.to=[]
     .simp(disch:=omega)[c,n,f,s,g,pS,-aav]
     .simp(disch:=omega)[c,n,f,s,zzd,az,g,pS,-aav]
    .have f:(((live%262144:Nat):Int)==(x.lv:Int))=false:=aF an;have:=next (by simp[q]);simp(disch:=omega)[c,n,f,e,bD,aw,ak,TF,FL,-aad,-aav]
     exact λj b r a o=>by have:=this j b r a;simpa[o] using this
   .have:=next (by simp[c]);simp(disch:=omega)[c,e,bD,aw,ak,TF,FL,-aad,-aav]
    exact λj b r a o=>by have:=this j b r a;simpa[o] using this
  .have E:i=t.length:=an
   subst E
   have g:Dz t w live=none:=by rw[Dz,d,if_pos rfl,Option.map_eq_none_iff,List.find?_eq_none];intro r a;obtain⟨j,b⟩:=aay a;rw[k j (aag.1 b).1 r b];simp
   simp[g,pS]
def zCx[aA G][aB G][aO G][eA G][cQ G](t:List TR)(r:TR)(N:t.length<=1000000)(O:∀r∈t,r.ok)(P:r.ok) :
  FP G 357 [TF t,TV r] (.a_ [TF (rS t r).1,.int .i64 (rS t r).2]):=by
 refine bt cQ.afv (aaf rfl) ?_;have w:=PM (G:=G) t N O;have h:=zus (G:=G) r P;have x:r.cs.length=3:=rfl;have z:r.cs.take 3=r.cs:=rfl
 have k:∀n,ba n r.cs=r.cs:=λn=>by simp[TR.cs,ba,V.cl,Tk.cl]
 simp only[TF,TV] at w h;simp[TF,TV];refine au w ?_
 cases a:ei t with
 | false=>simp[rS,a]
 | true =>
  simp[x,z];refine au h ?_
  cases f:r.may with
  | false=>simp[rS,a,f]
  | true =>
   have C:∀r∈t,r.may=true:=λr w=>by
    simp only[ei,aab] at a;exact aak.1 a.1.1 r w
   have xO:=(PN a).2;have Q:=zCw (G:=G) t r N O C P f [some (.cells r.cs)] (λn _=>by simp[ax.cl,k]);simp only[TF,TV] at Q;simp[x,z];refine SE.scall Q rfl ?_
   cases b:rR t r with
   | true=>simp[rS,a,f,b]
   | false =>
    by_cases E:t.length=64
    .have c:((t.length:Int)==64)=true:=by simp[E]
     simp[rS,a,f,b,E,c]
    .have c:((t.length:Int)==64)=false:=aF an;have F:=zwR t r;obtain⟨p,H⟩:=bb (qh t r)
     have Z:rS t r=(t.take p++r::t.drop p,0):=by simp[rS,a,f,b,E,H]
     rw[<-H] at F;rw[Z,<-H]
     have eQ:(TL t).take p=TL (t.take p):=by simp[TL]
     have l:(TL t).drop p=TL (t.drop p):=by simp[TL]
     have uv:(t.take p).length=p:=by rw[aal];omega
     have xP:=JC f;have R:=zs9 (G:=G) r an an;have ou:=zta r;simp only[TV] at R;obtain⟨T,m⟩:∃T:Nat->List TR,∀j,T j=t.take j:=⟨_,λ_=>rfl⟩
     have wM:T 0=[]:=by rw[m];rfl
     have S:∀j,j<=t.length->(T j).length=j:=λj W=>by rw[m,aal];omega
     simp(disch:=omega)[c,az,eQ,uv,PL]
     refine aM p (λi=>[(0,TF t),(3,.ptr 0 0),(6,.int .i64 p),(8,.vs (TL (T i)) (.own 1)),(38,.vs (TL (t.take p)) .no),(39,.int .i64 p),(40,.int .i64 i)])
      (λi=>[some (.cells r.cs),some (.zone i)]) (λ_=>True) ?_ ?_
     .simp[aw,ak,TF,wM,TL,ax.cl,k]
     intro i hi _
     by_cases A:i<p
     .obtain⟨y,I⟩:=bb (t[i]'(by omega))
      have d:t[i]?=some y:=by rw[I];exact aae _
      have Ah:(t.take p)[i]?=some y:=by rw[aaI,if_pos A,d]
      have o:=JD Ah
      have J:(TL (t.take p))[i]'(by simp;omega)=y.cs:=by have:=aag.1 o;exact this.2
      have K:=JC (C y (aah d));have q:=zs9 (G:=G) y an an;simp only[TV] at q;have s:y.cs.length=3:=rfl;have u:y.cs.take 3=y.cs:=rfl;have e:=zta y
      have g:TL (T i)++[y.cs]=TL (T (i+1)):=by rw[m,m,TZ,aat,d];rfl
      have B:=S i an;simp(disch:=omega)[bC,o,J,s,u];refine au q ?_;simp(disch:=omega)[s,u,e,g,B,PL,az,A,bD,aw,ak,TF,ax.cl,k,-aad]
     .have L:i=p:=an
      subst L;obtain⟨D,M⟩:=bb (t.drop i)
      have X:D.length=t.length-i:=by rw[M,aaH]
      have g:TL (T i)++[r.cs]=TL (T i++[r]):=TZ _ _;have B:=S i an;obtain⟨U,v⟩:∃U:Nat->List TR,∀j,U j=T i++[r]++D.take j:=⟨_,λ_=>rfl⟩
      have Y:T i++[r]=U 0:=by rw[v,aa3,List.append_nil]
      have LU:∀j,j<=D.length->(U j).length=i+1+j:=λj W=>by rw[v,aai,aai,B,aal];simp;omega
      rw[Y] at g;simp[bC,x,z];refine au R ?_;rw[<-M] at l |-
      have vU:(TL D).take (t.length-i)=TL D:=by rw[aaL];simp;omega
      simp(disch:=omega)[TF,vU,x,z,ou,g,B,PL,az,l,X]
      refine aM D.length (λj=>[(8,.vs (TL (U j)) (.own 1)),(57,.vs (TL D) .no),(58,.int .i64 D.length),(59,.int .i64 j)])
       (λj=>[some (.cells r.cs),some (.zone (i+1+j)),none]) (λ_=>True) ?_ ?_
      .simp[aw,ak,Y,ax.cl,k,X]
      intro j W _
      by_cases A:j<D.length
      .obtain⟨y,I⟩:=bb (D[j]'(by omega))
       have d:D[j]?=some y:=by rw[I];exact aae _
       have o:=JD d;have J:(TL D)[j]'(by simp;omega)=y.cs:=(aag.1 o).2
       have Qj:y∈t:=by have:=aah d;rw[M] at this;exact aar this
       have K:=JC (C y Qj);have q:=zs9 (G:=G) y an an;simp only[TV] at q;have s:y.cs.length=3:=rfl;have u:y.cs.take 3=y.cs:=rfl;have e:=zta y
       have g:TL (U j)++[y.cs]=TL (U (j+1)):=by rw[v,v,TZ,aat,d];simp
       have gC:=LU j an;simp(disch:=omega)[bC,o,J,s,u];refine au q ?_;simp(disch:=omega)[s,u,e,g,gC,PL,az,A,bD,aw,ak,ax.cl,k,-aad];omega
      .have L:j=D.length:=an
       subst L
       have cL:U D.length=t.take i++r::D:=by rw[v,aaA,m];simp
       simp[cL]
def LX(f:List af)(a n:Nat):Nat:=fG (nd (f.drop (a+n))) 18
def x9(f:List af)(a n:Nat):List af:=(f.drop a).take n
noncomputable def Aw(w:List af)(t:List TR)(live:Nat)(tries:Int):Option (List af) :=
 match Dz t w live with
 | some x=>if aY x=true/\(eU w x live).1=0 then some x else jS w live tries
 | none=>jS w live tries
noncomputable def wq(f:List af)(t:List TR)(tries:Int)(p:Pc):Option (List af×List TR) :=
 (Aw (x9 f p.1 p.2) t (LX f p.1 p.2) tries).map λx=>(fi f p.1 p.2 x,(rS t ⟨x9 f p.1 p.2,x,LX f p.1 p.2⟩).1)
noncomputable def Cf(f:List af)(t:List TR)(tries most:Int):Option (List af×List TR):=(rows f most f.length).findSome? (wq f t tries)
noncomputable def wV(tries most:Int):Nat->List af->List TR->(List af×List TR)×Nat×Bool
 | 0,f,t=>((f,t),0,false)
 | k+1,f,t=>match Cf f t tries most with
  | none=>((f,t),0,true)
  | some q=>((wV tries most k q.1 q.2).1,(wV tries most k q.1 q.2).2.1+1,(wV tries most k q.1 q.2).2.2)
def zCy{t:List TR}{w x:List af}{live:Nat}(h:Dz t w live=some x):∃r∈t,r.fr=w/\r.to=x/\r.may=true:=by
 unfold Dz at h;split at h
 .rename_i a;rw[aaN] at h;obtain⟨r,b,e⟩:=h;have c:=List.find?_some b;have d:=List.mem_of_find?_eq_some b;simp only[aab,decide_eq_true_eq] at c;simp only[ei,aab] at a;exact⟨r,d,c.1,e,aak.1 a.1.1 r d⟩
 .cases h
def zqV{w x:List af}{t:List TR}{live:Nat}{tries:Int}(i:∀y∈w,y.k<4294967296)(a:aY w=true)(j:∀r∈t,∀y∈r.to,y.k<4294967296)(h:Aw w t live tries=some x) :
  aY x=true/\x.length<w.length/\(eU w x live).1=0/\∀y∈x,y.k<4294967296:=by
 have l:w.length<=32:=by simp only[aY,aab,decide_eq_true_eq] at a;exact a.1
 have d:jS w live tries=some x->aY x=true/\x.length<w.length/\(eU w x live).1=0/\∀y∈x,y.k<4294967296:=λh=>by
  obtain⟨k,_,m,n,_⟩:=zEB h;have b:=aah m;exact⟨zEC zxT b l,Uh b,n,λy c=>zsl i a y (Ui b y c)⟩
 unfold Aw at h;split at h
 .rename_i y c;split at h
  .rename_i e;cases h;obtain⟨r,o,p,f,g⟩:=zCy c;simp only[TR.may,aab,decide_eq_true_eq] at g;exact⟨e.1,by rw[<-p,<-f];exact g.1.2,e.2,by rw[<-f];exact j r o⟩
  .exact d h
 .exact d h
def l_(t:List TR):Prop:=∀r∈t,(∀y∈r.fr,y.k<4294967296)/\(∀y∈r.to,y.k<4294967296)/\r.lv<4294967296
structure acq (f:List af) (t:List TR) (f':List af) (t':List TR):Prop where
 sound:dE f'=true
 k:∀y∈f',y.k<4294967296
 len:f'.length<f.length
 run:∀d:Da,d.ok->(run d f' rI).1=(run d f rI).1/\((∀y∈f,y.op≠60)->(run d f' rI).2<=(run d f rI).2)
 acr:(∀y∈f,y.op≠60)->∀y∈f',y.op≠60
 all:wm f->wm f'
 tk:l_ t'
 dB:ei t=true->ei t'=true/\t.length<=t'.length/\t'.length<=t.length+1/\∀r∈t',r∈t\/aY r.fr=true/\aY r.to=true/\(eU r.fr r.to r.lv).1=0
def zy0{t:List TR}{r:TR}(b:l_ t)(c:∀y∈r.fr,y.k<4294967296)(d:∀y∈r.to,y.k<4294967296)(e:r.lv<4294967296):l_ (rS t r).1:=by
 unfold rS;split
 .split
  .exact b
  .split
   .exact b
   .intro x a;rw[aax,aan] at a
    rcases a with a|rfl|a
    .exact b x (aaG a)
    .exact⟨c,d,e⟩
    .exact b x (aar a)
 .exact b
structure acs (f:List af) (t:List TR) (f':List af) (t':List TR):Prop where
 sound:dE f'=true
 k:∀y∈f',y.k<4294967296
 len:f'.length<f.length
 tk:l_ t'
 dB:ei t=true->ei t'=true
def zwX{f c:List af}{t d:List TR}{tries most:Int}(s:dE f=true)(g:∀y∈f,y.k<4294967296)(i:l_ t)(h:Cf f t tries most=some (c,d)):acs f t c d:=by
 obtain⟨p,u,b⟩:=aaO h;obtain⟨C,j,D,E⟩:=S5 u;simp only[rK,BP,vb,BO,aab,decide_eq_true_eq] at j;obtain⟨⟨_,_⟩,_,⟨F,G,H,I⟩,a⟩:=j
 have a:sQ f p.1 p.2=true:=by simpa using a
 have l:p.1+p.2<=f.length:=an
 unfold wq at b;rw[aaN] at b;obtain⟨x,v,e⟩:=b;cases e
 have J:(x9 f p.1 p.2).length=p.2:=by rw[x9,aal,aaH];omega
 have m:∀y∈x9 f p.1 p.2,y.k<4294967296:=OL g _ _
 have n:aY (x9 f p.1 p.2)=true:=by simp only[sQ,aab] at a;exact a.1
 have w:LX f p.1 p.2<262144:=vk _ 18;obtain⟨o,K,L,q⟩:=zqV m n (λr z=>(i r z).2.1) v
 have A:x.length<=p.2:=an
 refine⟨ztU s a an l o A,zFs g q,by rw[S6 l];omega,zy0 i m q (by simp only;omega),λB=>?_⟩
 exact(zwS B (by
  simp only[TR.may,n,o,abe,aab,decide_eq_true_eq]
  exact⟨an,w⟩)).1
def zEL{f H:List af}{t I:List TR}{tries most:Int}(o:dE f=true)(A:∀y∈f,y.k<4294967296)(J:l_ t)(h:Cf f t tries most=some (H,I)):acq f t H I:=by
 obtain⟨p,N,B⟩:=aaO h;obtain⟨CP,K,h2,zW⟩:=S5 N;simp only[rK,BP,vb,BO,aab,decide_eq_true_eq] at K;obtain⟨⟨_,_⟩,_,⟨i1,i2,i3,i4⟩,g⟩:=K
 have g:sQ f p.1 p.2=true:=by simpa using g
 have u:0<p.2:=an
 have m:p.1+p.2<=f.length:=an
 have yX:=ztT o g u m;unfold wq at B;rw[aaN] at B;obtain⟨x,L,e⟩:=B;cases e;obtain⟨P,j⟩:=bb (x9 f p.1 p.2)
 have O:P.length=p.2:=by rw[j,x9,aal,aaH];omega
 have v:∀y∈P,y.k<4294967296:=by rw[j];exact OL A _ _
 have l:aY P=true:=by rw[j];simp only[sQ,aab] at g;exact g.1
 obtain⟨live,C⟩:=bb (LX f p.1 p.2)
 have Q:live<262144:=by rw[C];exact vk _ 18
 rw[<-j,<-C] at L |-;obtain⟨b,w2,c,n⟩:=zqV v l (λr D=>(J r D).2.1) L
 have E:x.length<=p.2:=an
 have R:∀(d:Da),d.ok->∀s:St,s.ok->wu P x live s d=false:=λd hd s S=>by
  rcases pT (live:=live) l b with⟨_,h⟩|⟨r,h,_⟩|⟨h,_⟩
  .exact zCR v n S hd l b h
  .rw[h] at c;cases c
  .rw[h] at c;cases c
 have T:kj P P.length=kj x x.length:=by
  rcases pT (live:=live) l b with⟨_,h⟩|⟨r,h,_⟩|⟨h,_⟩
  .exact zCr v n l b h
  .rw[h] at c;cases c
  .rw[h] at c;cases c
 have M:∀y∈P,y∈f:=λy a=>by rw[j] at a;exact aar (aaG a)
 have U:(⟨P,x,live⟩:TR).may=true:=by simp only[TR.may,l,b,abe,aab,decide_eq_true_eq];exact⟨an,Q⟩
 refine⟨ztU o g u m b E,zFs A n,by rw[S6 m];omega,λd hd=>?_,λhd=>?_,λV=>zEG o g u m b E V,zy0 J v n (show live<4294967296 by omega),λW=>?_⟩
 .have:=zsi (live:=live) o g u m b E A n hd (λq X F=>by
   rw[z_,zGl,C,LX,Az];simp[X,F]) (by show ∀s:St,s.ok->wu (x9 f p.1 p.2) x live s d=false;rw[<-j];exact R d hd) f.length 0 rI an an (.inl (abu _)) Zo
  rw[if_pos (abu _),aa4,aa4] at this;refine⟨this.1,λF=>?_⟩
  rcases this.2 with h|h
  .exact h
  .exfalso;have z:=(zjW (w:=P)).2 λy a=>F y (M y a);rw[O] at z;change 0<kj (x9 f p.1 p.2) p.2 at h;rw[<-j] at h;omega
 .have z:=(zjW (w:=P)).2 λy a=>hd y (M y a);rw[T] at z;have G:=zjW.1 z;intro y a;simp only[fi,aax] at a
  rcases a with(a|a)|a
  .simp only[pre,aa0,aa5] at a;obtain⟨i,hi,rfl⟩:=a;rw[Lf];rw[List.getD,aae (show i<f.length by omega)];exact hd _ (aau _)
  .exact G y a
  .exact hd y (aar a)
 .obtain⟨Y,Z,l3,l4⟩:=zwS W U;refine⟨Y,Z,l3,λr D=>?_⟩
  rcases l4 r D with h|rfl
  .exact .inl h
  .exact .inr ⟨l,b,c⟩
structure He (f:List af) (t:List TR) (q:(List af×List TR)×Nat×Bool):Prop where
 sound:dE q.1.1=true
 k:∀y∈q.1.1,y.k<4294967296
 len:q.1.1.length<=f.length
 run:∀d:Da,d.ok->(run d q.1.1 rI).1=(run d f rI).1/\((∀y∈f,y.op≠60)->(run d q.1.1 rI).2<=(run d f rI).2)
 all:wm f->wm q.1.1
 tk:l_ q.1.2
 dB:ei t=true->ei q.1.2=true/\t.length<=q.1.2.length/\q.1.2.length<=t.length+q.2.1/\∀r∈q.1.2,r∈t\/aY r.fr=true/\aY r.to=true/\(eU r.fr r.to r.lv).1=0
def zuu{tries most:Int}:∀(n:Nat) {f:List af} {t:List TR},dE f=true->(∀y∈f,y.k<4294967296)->l_ t->He f t (wV tries most n f t)
 | 0,f,t,c,e,g=>⟨c,e,aaq _,λd _=>⟨rfl,λ_=>aaq _⟩,id,g,λh=>⟨h,aaq _,by simp[wV],λr a=>.inl a⟩⟩
 | n+1,f,t,c,e,g=>by
  unfold wV
  cases a:Cf f t tries most with
  | none=>exact⟨c,e,aaq _,λd _=>⟨rfl,λ_=>aaq _⟩,id,g,λh=>⟨h,aaq _,ir,λr a=>.inl a⟩⟩
  | some q =>
   have k:=zEL c e g a;have b:=zuu (tries:=tries) (most:=most) n k.sound k.k k.tk;simp only[];refine⟨b.sound,b.k,by have:=b.len;have:=k.len;simp only;omega,λd hd=>?_,λp=>b.all (k.all p),b.tk,λs=>?_⟩
   .obtain⟨i,l⟩:=b.run d hd;obtain⟨j,m⟩:=k.run d hd;exact⟨i.trans j,λo=>aas (l (k.acr o)) (m o)⟩
   .obtain⟨j,m,w,u⟩:=k.dB s;obtain⟨i,l,x,v⟩:=b.dB j;refine⟨i,by simp only;omega,by simp only;omega,λr a=>?_⟩
    rcases v r a with h|h
    .exact u r h
    .exact .inr h
def sn(b lo hi:Int):Int:=max lo (min b hi)
def ztb[fk G](b lo hi:Int):FP G 360 [.int .i64 b,.int .i64 lo,.int .i64 hi] (.int .i64 (sn b lo hi)):=by refine bt fk.afy (aaf rfl) ?_;simp[sn];omega
def zEM[fk G](a b c:Int):FP G 361 [.agg [.int .i64 a,.int .i64 b,.int .i64 c]] (.agg [.int .i64 (sn a 0 1000),.int .i64 (sn b 0 1000),.int .i64 (sn c 0 32)]):=by refine bt fk.afz (aaf rfl) ?_;simp;refine au (ztb _ _ _) ?_;simp;refine au (ztb _ _ _) ?_;simp;refine au (ztb _ _ _) ?_;simp
def ki(t:List TR):List TR:=if ei t=true then t else []
def zGW[aA G][aB G][aO G][eA G][cQ G][fk G](t:List TR)(c:t.length<=1000000)(d:∀r∈t,r.ok):FP G 362 [TF t] (TF (ki t)):=by
 refine bt fk.afA (aaf rfl) ?_;have a:=PM (G:=G) t c d;simp only[TF] at a;simp[TF];refine au a ?_
 cases b:ei t with
 | false=>simp[ki,b,TL]
 | true=>simp[ki,b]
def zAk[eo G][dK G][aA G][aB G][bV G][dy G][du G][aO G][cV G][cW G][bX G][cf G][bO G][ar G][Q:dQ G][cw G][aL G][c_ G][bW G][cP G][eW G][f_ G][fH G][fI G][iP G][eA G][cQ G][fk G]
  (w:List af) (t:List TR) (live:Nat) (tries:Int) (g:aY w=true) (v:∀x∈w,x.k<4294967296) (J:t.length<=1000000) (y:∀r∈t,r.ok) (i:live<4294967296) :
  FP G 363 [FL w,TF t,.int .u32 live,.int .i64 tries] (pS (Aw w t live tries)):=by
 refine bt fk.afB (aaf rfl) ?_;have z:=zEK (G:=G) t w live J y i;have K:=(LW g).1;have a:w.length<=maxLen:=aas K ag7;have j:=zHc (G:=G) w live tries a v g i;simp only[FL,TF] at z j;simp[FL,TF];refine au z ?_
 cases d:Dz t w live with
 | none =>
  have b:Aw w t live tries=jS w live tries:=by rw[Aw,d]
  rw[b];simp[pS];refine au j ?_
  cases jS w live tries<;>simp[pS]
 | some x =>
  obtain⟨r,L,R,C,l⟩:=zCy d;have D:=(y r L).2.2.2.1;have E:=(JC l).2;rw[C] at D E;have F:=zuF (G:=G) w x live a (aas E ag7) v D i
  have c:aY x=true:=by simp only[TR.may,aab] at l;rw[<-C];exact l.1.1.2
  simp only[FL,g,c,Bool.and_self,if_true] at F;simp[pS];refine au F ?_;obtain⟨A,H⟩:=bb (dO 0 none)
  have M:A.length=28:=by rw[H];rfl
  obtain⟨e,B,m,N,O,P,I⟩:∃(e:Int) (B:List V),(eU w x live).1=e/\B=dO (eU w x live).1 (eU w x live).2/\(∀n,ba n B=B)/\B.length=28/\B.take 1=[.int .i64 (eU w x live).1] :=
   ⟨_,_,rfl,rfl,λn=>Uo _ _ n,zxg w x live,zzk _ _⟩
  have o:V.int .i64 0::(av .u32 (aP 20)++av .u64 (aP 7))=A:=by rw[H];rfl
  have p:B.take 28=B:=aaL an;have q:B.drop 28=[]:=aa2 an;have s:A.drop 28=[]:=aa2 an;rw[<-N];rw[m] at I;simp[o,s,p,q,M,P,I,O]
  by_cases f:e=0
  .have b:Aw w t live tries=some x:=by rw[Aw,d];simp only[];rw[if_pos ⟨c,by rw[m,f]⟩]
   simp[f,b,pS]
  .have b:Aw w t live tries=jS w live tries:=by rw[Aw,d];simp only[];rw[if_neg (by rintro⟨_,h⟩;rw[m] at h;exact f h)]
   have u:(e==0)=false:=aF f;rw[b];simp[u];refine au j ?_
   cases jS w live tries<;>simp[pS]
def pQ(f:List af)(t:List TR)(n:Nat)(d:Bool):List V:=[FL f,TF t,.int .i64 n,.bool d]
def Aa(f:List af)(t:List TR):Option (List af×List TR)->V
 | some q=>.a_ [.agg (pQ q.1 q.2 1 false),.bool true]
 | none=>.a_ [.agg (pQ f t 0 true),.bool false]
def T3(t:List TR):Prop:=t.length<=1000000/\∀r∈t,r.ok
def zAl[eo G][dK G][aA G][aB G][bV G][dy G][du G][aO G][cV G][cW G][bX G][cf G][bO G][ar G][Dx:dQ G][cw G][aL G][c_ G][bW G][cP G][eW G][f_ G][fH G][fI G][iP G][dh G][fK G][eK G][eA G][cQ G][fk G]
  (f:List af) (t:List TR) (M tries most:Int) (N:dE f=true) (s:∀x∈f,x.k<4294967296) (g:T3 t) (hm:0<=most/\most<=32) :
  FP G 364 [FL f,TF t,.agg [.int .i64 M,.int .i64 tries,.int .i64 most]] (Aa f t (Cf f t tries most)):=by
 refine bt fk.afC (aaf rfl) ?_;have w:=Lc N;have O:f.length<=maxLen:=aas w ag7;have z:=zBC (G:=G) f most O s an;obtain⟨L,u⟩:=bb (rows f most f.length)
 have ha:L.length<=200000:=by have:=ZB f most f.length;rw[u];omega
 rw[<-u] at z
 have Q:Cf f t tries most=L.findSome? (wq f t tries):=by rw[Cf,u]
 simp only[FL] at z;simp[FL,TF];refine au z ?_;simp
 refine aM L.length (λi=>[(0,FL f),(1,TF t),(5,.ptr 0 0),(6,.ptr 1 0),(24,.vs (wO L) .no),(25,.int .i64 L.length),(26,.int .i64 i)])
  (λ_=>[some (.cells [.int .i64 M,.int .i64 tries,.int .i64 most]),some (.cells [.vs [] .full,.vs [] .full,.int .i64 0,.bool false])]) (λi=>∀j<i,∀p,L[j]?=some p->wq f t tries p=none) ?_ ?_
 .simp[aw,ak,FL,TF]
 intro i hi A
 by_cases B:i<L.length
 .obtain⟨p,l⟩:=bb (L[i])
  have R:L[i]?=some p:=by rw[l];exact aae B
  have ZC:p∈rows f most f.length:=by rw[<-u];exact aah R
  obtain⟨CP,C,h2,zW⟩:=S5 ZC;have S:=C;simp only[rK,aab] at S;have T:=S.2;simp only[rK,BP,vb,BO,aab,decide_eq_true_eq] at C;obtain⟨⟨_,_⟩,_,⟨i1,i2,i3,i4⟩,d⟩:=C
  have d:sQ f p.1 p.2=true:=by simpa using d
  obtain⟨a,n⟩:=p;simp only at CP h2 zW d i1 i2 i3 i4 T
  have qO:a+n<=f.length:=an
  obtain⟨x,U⟩:∃x,f[a+n-1]?=some x:=⟨_,aae an⟩;have v:=zBw (G:=G) f (a+n-1) x U s N
  have ow:∀x∈(f.drop a).take n,mO x=true:=by simp only[sQ,aab] at d;exact IZ d.1
  have Ld:mO x=true:=ow x (by
   refine aah (i:=n-1) ?_;rw[aaI,if_pos an,aaw,show a+(n-1)=a+n-1 by omega]
   exact U)
  have NJ:aW x=[0]:=by obtain⟨h5,fz,h6,pb⟩:=Qe Ld;simp[aW,gu,h5,fz,h6,pb]
  rw[NJ,zIy,show a+n-1+1=a+n by omega] at v;obtain⟨live,D⟩:=bb (LX f a n)
  have V:live<4294967296:=by rw[D];exact Nat.lt_of_lt_of_le (vk _ 18) ag7
  rw[show fG (nd (f.drop (a+n))) 18=live from D.symm] at v;obtain⟨P,e⟩:=bb (x9 f a n)
  have Ff:P.length=n:=by rw[e,x9,aal,aaH];omega
  have E:∀y∈P,y.k<4294967296:=by rw[e];exact OL s a n
  have W:aY P=true:=by rw[e,x9];simp only[sQ,aab] at d;exact d.1
  have X:=zAk (G:=G) P t live tries W E g.1 g.2 V;have e1:aD .i64 (a:Int) (n:Int)=((a+n:Nat):Int):=rj an
  have e2:bP .i64 ((a+n:Nat):Int) 1=((a+n-1:Nat):Int):=by rw[nQ]<;>omega
  have Y:((IL f).drop a).take n=IL P:=by rw[Za,Zb,e,x9]
  have Ur:((IL f).take (a+n)).drop a=IL P:=by rw[Zb,Za,e,x9,List.drop_take];congr 2;omega
  have Fg:((IL f).drop a).take (a+n-a)=IL P:=by rw[show a+n-a=n by omega];exact Y
  have Z:L[i]=(a,n):=l.symm;have c1:((a:Int)<=((a+n:Nat):Int))=True:=ag5;have c2:(((a+n:Nat):Int)<=(f.length:Int))=True:=ag5
  have LM:wq f t tries (a,n)=(Aw P t live tries).map λx=>(fi f a n x,(rS t ⟨P,x,live⟩).1):=by rw[wq,<-e,<-D]
  simp only[FL,TF] at v X;simp(disch:=omega)[bC,az,Z,FL,TF,e1,e2,c1,c2,Fg,-aad];refine au v ?_;simp(disch:=omega)[Y];refine au X ?_
  cases F:Aw P t live tries with
  | none =>
   have vi:∀j<i+1,∀p,L[j]?=some p->wq f t tries p=none:=λj b p c=>by
    rcases aaB.1 b with h|rfl
    .exact A j h p c
    .rw[R] at c;cases c;rw[LM,F];rfl
   simp(disch:=omega)[pS,B,bD,aw,ak,FL,TF,-aad]
   exact λj b p q c=>vi j b (p,q) c
  | some y =>
   obtain⟨w1,w2,w3,w4⟩:=zqV E W (λr m=>(g.2 r m).2.2.2.1) F;have Ql:=(LW w1).1
   have H:SY f a n y=true:=by simp only[SY,T,w1,abe,decide_eq_true_eq];omega
   have Qm:=zH6 (G:=G) f y a n O (aas Ql ag7) s w4 H;obtain⟨r,m⟩:∃r:TR,r=⟨P,y,live⟩:=⟨_,rfl⟩
   have Un:r.ok:=by rw[m];exact⟨aas (show P.length<=32 by omega) ag7,aas Ql ag7,E,w4,V⟩
   have I:=zCx (G:=G) t r g.1 g.2 Un
   have HZ:TV r=.agg [.vs (IL P) .no,.vs (IL y) .no,.int .u32 live]:=by rw[m];rfl
   rw[HZ] at I
   have J:Cf f t tries most=some (fi f a n y,(rS t r).1):=by
    rw[Q]
    have l7:L=L.take i++(a,n)::L.drop (i+1):=by have:=aaj B;rw[Z] at this;rw[<-this,List.take_append_drop]
    exact List.findSome?_eq_some_iff.2 ⟨L.take i,(a,n),L.drop (i+1),l7,by rw[LM,F,m];rfl,λp c=>by
     obtain⟨j,b⟩:=aay c;rw[aaI] at b;split at b
     .rename_i wC;exact A j wC p b
     .cases b⟩
   rw[J];simp only[FL,TF] at Qm I;simp[pS];refine au Qm ?_;simp;refine au I ?_
   by_cases o:(rS t r).2=0
   .have K:((rS t r).2==0)=true:=by simp[o]
    simp[K,Aa,pQ,FL,TF]
   .have K:((rS t r).2==0)=false:=aF o
    have vP:(rS t r).1=t:=by
     unfold rS at o |-;split
     .split
      .rfl
      .split
       .rfl
       .rename_i g1 g2 g3;rw[if_pos g1,if_neg g2,if_neg g3] at o;exact absurd rfl o
     .rfl
    simp[K,vP,Aa,pQ,FL,TF]
 .have ay:i=L.length:=an
  subst ay
  have Bc:Cf f t tries most=none:=by rw[Q,List.findSome?_eq_none_iff];intro p c;obtain⟨j,b⟩:=aay c;exact A j (aag.1 b).1 p b
  rw[Bc];simp[Aa,pQ,FL,TF]
def uL(f:List af)(a:Nat)(m:List Bool):List Bool :=
 if h:a<f.length then
  if m.getD a false=true then m
  else if gu (f[a]'h).op=true then m.set a true
  else if(f[a]'h).op=5 then uL f (a+1+(f[a]'h).k) (m.set a true)
  else if aX (f[a]'h).op=true then uL f (a+1+(f[a]'h).jf.toNat) (uL f (a+1+(f[a]'h).jt.toNat) (m.set a true))
  else uL f (a+1) (m.set a true)
 else m
termination_by f.length-a
def nY(m:List Bool)(i:Nat):Prop:=m[i]?=some true
structure Mt (f:List af) (a:Nat) (m m':List Bool):Prop where
 len:m'.length=m.length
 mono:∀i,nY m i->nY m' i
 at':nY m' a
 cls:∀i x,nY m' i->¬nY m i->f[i]?=some x->∀o∈aW x,nY m' (i+1+o)
 min:∀i,nY m' i->¬nY m i->i=a\/∃j x o,f[j]?=some x/\nY m' j/\o∈aW x/\j+1+o=i
def LZ{m:List Bool}{a i:Nat}(b:a<m.length):nY (m.set a true) i↔i=a\/nY m i:=by
 unfold nY
 by_cases e:a=i
 .subst e;rw[List.getElem?_set_self b];simp
 .rw[List.getElem?_set_ne e];constructor
  .exact .inr
  .rintro(h|h)
   .exact absurd h.symm e
   .exact h
def Mt.refl{f:List af}{a:Nat}{m:List Bool}(h:nY m a):Mt f a m m:=⟨rfl,λ_ h=>h,h,λi x b c=>absurd b c,λi b c=>absurd b c⟩
def Mt.one{f:List af}{a:Nat}{m b:List Bool}{x:af}(d:a<m.length)(n:f[a]?=some x)(p:b.length=m.length)(c:∀i,nY (m.set a true) i->nY b i)
  (nx:∀o∈aW x,nY b (a+1+o)) (g:∀i y,nY b i->¬nY (m.set a true) i->f[i]?=some y->∀o∈aW y,nY b (i+1+o))
  (min:∀i,nY b i->¬nY (m.set a true) i->∃j y o,f[j]?=some y/\nY b j/\o∈aW y/\j+1+o=i):Mt f a m b:=by
 have q:nY b a:=c a ((LZ d).2 (.inl rfl));refine⟨p,λi hi=>c i ((LZ d).2 (.inr hi)),q,λi y hi k l=>?_,λi hi k=>?_⟩
 .by_cases e:i=a
  .subst e;rw[n] at l;cases l;exact nx
  .exact g i y hi (λh=>((LZ d).1 h).elim e k) l
 .by_cases e:i=a
  .exact .inl e
  .exact .inr (min i hi λh=>((LZ d).1 h).elim e k)
def Qn{f:List af}(z:dE f=true):∀(n a:Nat) (m:List Bool),f.length-a<=n->a<f.length->m.length=f.length->Mt f a m (uL f a m)
 | 0,a,m,d,c,_=>by omega
 | n+1,a,m,d,c,I=>by
  have l:f[a]?=some f[a]:=aae c;have r:=λo h=>Gz (o:=o) z l h;obtain⟨x,D⟩:=bb (f[a]);rw[<-D] at l r;rw[uL,dif_pos c,<-D]
  by_cases p:m.getD a false=true
  .rw[if_pos p];refine .refl ?_;rw[aaW] at p;unfold nY
   cases E:m[a]? with
   | none=>rw[E] at p;cases p
   | some b=>rw[E] at p;simp at p;rw[p]
  rw[if_neg p]
  have t:a<m.length:=an
  have C:(m.set a true).length=f.length:=by rw[abo,I]
  by_cases A:gu x.op=true
  .rw[if_pos A];refine Mt.one t l ir (λ_ h=>h) (λo h=>?_) (λi y d c=>absurd d c) (λi d c=>absurd d c);simp[aW,A] at h
  rw[if_neg A]
  have F:gu x.op=false:=by simpa using A
  have u:∀o,aW x=[o]->Mt f a m (uL f (a+1+o) (m.set a true)):=λo e=>by
   have J:=r o (by rw[e];simp);have k:=Qn z n (a+1+o) (m.set a true) an J C;refine Mt.one t l (by rw[k.len];simp) k.mono (λq h=>?_) k.cls (λi d c=>?_)
   .rw[e,aao] at h;subst h;exact k.at'
   .rcases k.min i d c with rfl|h
    .exact⟨a,x,o,l,k.mono a ((LZ t).2 (.inl rfl)),by rw[e];simp,rfl⟩
    .exact h
  by_cases v:x.op=5
  .rw[if_pos v]
   have K:gu (5:Int)=false:=by decide
   exact u x.k (by simp[aW,v,K])
  rw[if_neg v]
  by_cases B:aX x.op=true
  .rw[if_pos B]
   have w:aW x=[x.jt.toNat,x.jf.toNat]:=by simp[aW,F,v,B]
   have s:=Qn z n (a+1+x.jt.toNat) (m.set a true) an (r _ (by rw[w];simp)) C;have g:=Qn z n (a+1+x.jf.toNat) (uL f (a+1+x.jt.toNat) (m.set a true)) an (r _ (by rw[w];simp)) (by rw[s.len,C]);refine Mt.one t l (by rw[g.len,s.len];simp) (λi h=>g.mono i (s.mono i h)) (λq h=>?_) (λi y d c G o r=>?_) (λi d c=>?_)
   .rw[w] at h;simp only[aan,aaD,or_false] at h
    rcases h with rfl|rfl
    .exact g.mono _ s.at'
    .exact g.at'
   .by_cases hi:nY (uL f (a+1+x.jt.toNat) (m.set a true)) i
    .exact g.mono _ (s.cls i y hi c G o r)
    .exact g.cls i y d hi G o r
   .have H:nY (uL f (a+1+x.jf.toNat) (uL f (a+1+x.jt.toNat) (m.set a true))) a:=g.mono _ (s.mono a ((LZ t).2 (.inl rfl)))
    by_cases hi:nY (uL f (a+1+x.jt.toNat) (m.set a true)) i
    .rcases s.min i hi c with rfl|⟨j,y,o,L,M,N,O⟩
     .exact⟨a,x,_,l,H,by rw[w];simp,rfl⟩
     .exact⟨j,y,o,L,g.mono _ M,N,O⟩
    .rcases g.min i d hi with rfl|h
     .exact⟨a,x,_,l,H,by rw[w];simp,rfl⟩
     .exact h
  .rw[if_neg B];have:=u 0 (by simp[aW,F,v,B]);simpa using this
def pU(f:List af):List Bool:=uL f 0 (aaJ f.length false)
def zy1:∀{f:List af} {m:List Bool},f.length=m.length->(∀i x,nY m i->f[i]?=some x->∀o∈aW x,nY m (i+1+o))->oI f m
 | [],[],_,_=>trivial
 | [],_::_,h,_=>by simp at h
 | _::_,[],h,_=>by simp at h
 | x::f,b::m,h,c=>by
  refine⟨λd o a=>?_,zy1 (by simpa using h) λi y hi e o a=>?_⟩
  .have:=c 0 x (by rw[d];rfl) rfl o a;rw[show 0+1+o=o+1 by omega] at this;exact this
  .have:=c (i+1) y hi (by simpa using e) o a;rw[show i+1+1+o=(i+1+o)+1 by omega] at this;exact this
def zwY{f:List af}(a:dE f=true):(pU f).length=f.length/\oI f (pU f)/\(pU f)[0]?=some true/\Qd f (pU f):=by
 have d:0<f.length:=by
  have:=Zn a
  cases f with
  | nil=>exact absurd rfl this
  | cons x f=>simp
 have k:=Qn a f.length 0 (aaJ f.length false) an d ir
 have b:∀i,¬nY (aaJ f.length false) i:=λi h=>by
  have:=aah h;rw[abi] at this;cases this.2
 have c:(pU f).length=f.length:=by rw[pU,k.len];simp
 refine⟨c,zy1 c.symm λi x hi e=>k.cls i x hi (b i) e,k.at',λi hi p=>?_⟩
 rcases k.min i hi (b i) with rfl|⟨j,x,o,g,l,m,n⟩
 .omega
 .exact⟨j,x,o,g,l,m,n⟩
def prune(f:List af):List af:=ej f (pU f)
def T2{f:List af}(b:dE f=true):dE (prune f)=true/\(prune f).length<=f.length/\wm (prune f)/\∀d s,run d (prune f) s=run d f s:=by obtain⟨e,a,c,g⟩:=zwY b;refine⟨zCU b a c,?_,zEF a g,λd s=>zzl d _ f _ s (aaq _) a c⟩;have:=List.countP_le_length (p:=id) (l:=pU f);rw[prune,JP f _ e.symm];omega
def T4:∀{f:List af} {m:List Bool} {y:af},y∈ej f m->∃x∈f,y.op=x.op/\(y.k=x.k\/y.k<=x.k)
 | x::f,true::m,y,h=>by
  rw[ej,aan] at h
  rcases h with rfl|h
  .refine⟨x,ir,JO m x,?_⟩;unfold ma;split
   .exact .inr (L3 _ _)
   .split<;>exact .inl rfl
  .obtain⟨z,a,b⟩:=T4 h
   exact⟨z,by simp[a],b⟩
 | x::f,false::m,y,h=>by
  rw[ej] at h;obtain⟨z,a,b⟩:=T4 h
  exact⟨z,by simp[a],b⟩
 | [],_,_,h=>by simp[ej] at h
 | _::_,[],_,h=>by simp[ej] at h
def HM(f:List af)(m:List Bool):ae:=[some (.cells [FL f]),some (.cells (cb m)),some (.cells [.rs 1 0 f.length 1]),some (.cells [.fn 346 [.ptr 2 0,.ptr 0 0,.ptr 3 0]])]
def zGX(f:List af)(m:List Bool):im (HM f m):=by intro n a;simp only[HM,aaY,List.length_nil] at a;simp[HM,FL,ax.cl,ba,V.cl,Tk.cl,show 0<n by omega,show 1<n by omega,show 2<n by omega,show 3<n by omega]
def zy2[aA G][gO G]{f:List af}(J:dE f=true)(Z:∀x∈f,x.k<4294967296)(hf:f.length<=maxLen):∀(n a:Nat) (m:List Bool) (r:ae),(∀n,r.map (Option.map (ax.cl n))=r)->f.length-a<=n->a<f.length->m.length=f.length ->
  SF G 346 [.int .i64 a,.ptr 2 0,.ptr 0 0,.ptr 3 0] (HM f m++r) (.a_ []) (HM f (uL f a m)++r)
 | 0,a,m,r,_,h1,M,_=>by omega
 | n+1,a,m,r,hr,h1,M,h3=>by
  refine km gO.afk (aaf rfl) ?_;have e:∀m,(HM f m).length=4:=λm=>rfl;have g0:∀m (s:ae),(HM f m++s)[0]?=some (some (.cells [FL f])):=λm s=>rfl;have g1:∀m (s:ae),(HM f m++s)[1]?=some (some (.cells (cb m))):=λm s=>rfl;have g2:∀m (s:ae),(HM f m++s)[2]?=some (some (.cells [.rs 1 0 f.length 1])):=λm s=>rfl;have N:∀m (s:ae),(HM f m++s)[3]?=some (some (.cells [.fn 346 [.ptr 2 0,.ptr 0 0,.ptr 3 0]])):=λm s=>rfl
  have s1:∀m O (s:ae),(HM f m++s).set 1 (some (.cells (cb O)))=HM f O++s:=λm O s=>rfl
  have kk:∀m (s:ae),(HM f m++(r++s))[4+r.length]?=s[0]?:=λm s=>by
   rw[<-aaC];exact oT (by simp[e])
  have k0:∀m (s:ae) y,(HM f m++(r++s)).set (4+r.length) y=HM f m++(r++s.set 0 y):=λm s y=>by
   rw[<-aaC,tN (by simp[e]),aaC]
  have p:∀m (s:ae),ak (4+r.length) (HM f m++(r++s))=HM f m++r:=λm s=>by
   have:=((zGX f m).app hr).back s;rw[aaC,aai,e] at this;exact this
  have g:0<4+r.length:=an
  have i:2<4+r.length:=an
  have j:3<4+r.length:=an
  obtain⟨R,hR⟩:=bb (uL f a m);rw[<-hR];simp[e];refine xe (S:=Nat×List Bool) (λs=>f.length-s.1) (λs=>[(0,.int .i64 s.1),(1,.ptr 2 0),(2,.ptr 0 0),(3,.ptr 3 0)]) (λs=>HM f s.2++r) (λs=>uL f s.1 s.2=R/\s.1<f.length/\s.2.length=f.length/\a<=s.1) (a,m) ?_ ?_
  .have:=p m [];simp at this;simp[aw,e,this,hR,M,h3,g,i,j]
  rintro⟨b,u⟩ ⟨d,E,hu,GK⟩;simp only at d E hu GK |-;have P:f[b]?=some f[b]:=aae E;have F:=λo h=>Gz (o:=o) J P h;have lu:=OH J P;obtain⟨x,K⟩:=bb (f[b]);rw[<-K] at P F lu;have q:x.cs.length=4:=rfl;have Q:x.cs.take 4=x.cs:=rfl;have eR:=rG E;rw[<-K] at eR;have v:u[b]?=some u[b]:=aae an;obtain⟨t,ht⟩:=bb (u[b]'(by omega));rw[<-ht] at v;have H:=zHZ u b t v
  have bY:=SR u b true an;rw[uL,dif_pos E,<-K] at d
  have vD:u.getD b false=t:=by rw[aaW,v];rfl
  rw[vD] at d;have bu:=p u [];simp at bu;have l5:=hf;simp only[maxLen] at l5
  cases t with
  | true =>
   rw[if_pos rfl] at d;subst d
   simp(disch:=omega)[e,g0,g1,g2,N,H,az,gS,bu]
  | false =>
   rw[if_neg ir] at d;simp(disch:=omega)[e,g0,g1,g2,N,H,az,gS,bY,s1,FL,eR,q,Q,kk,k0];refine au (On x) ?_;have T:(x.cs.drop 0).take 1=[.int .i64 x.op]:=rfl;have x1:x.cs.tail.take 1=[.int .i64 x.jt]:=rfl;have x2:(x.cs.drop 2).take 1=[.int .i64 x.jf]:=rfl;have x3:(x.cs.drop 3).take 1=[.int .u32 (x.k:Int)]:=rfl;have w:x.cs.take 1=[.int .i64 x.op]:=rfl
   have kx:∀n,ba n x.cs=x.cs:=λn=>by simp[af.cs,ba,V.cl]
   have v9:x.k<4294967296:=Z x (by rw[K];exact aau E)
   have z:(u.set b true).length=f.length:=by simp[hu]
   obtain⟨U,hU⟩:=bb (u.set b true);rw[<-hU] at d z |-
   by_cases L:gu x.op=true
   .rw[if_pos L] at d;subst d;simp[L,p]
   rw[if_neg L] at d
   have I:gu x.op=false:=by simpa using L
   have A:∀{c:Nat},b<c->c<f.length->f.length-c<f.length-b:=λh1 M=>by omega
   by_cases l:x.op=5
   .rw[if_pos l] at d
    have L0:gu (5:Int)=false:=by decide
    have C:=F x.k (by simp[aW,l,L0])
    have c1:eP .i64 (x.k:Int)=(x.k:Int):=by rw[Eu]<;>omega
    have W:aD .i64 (b:Int) (x.k:Int)=((b+x.k:Nat):Int):=by rw[eG]<;>omega
    have X:aD .i64 ((b+x.k:Nat):Int) 1=((b+1+x.k:Nat):Int):=by rw[eG]<;>omega
    simp(disch:=omega)[I,l,L0,kk,T,w,x3,q,c1,W,X,aw,e,p,d,C,z,g,i,j,-aad];exact⟨(b+1+x.k,U),A an C,⟨d,C,z,by simp only;omega⟩,by simp[aw,e,g,i,j,-aad],p U _⟩
   rw[if_neg l] at d
   by_cases D:aX x.op=true
   .rw[if_pos D] at d;obtain⟨b1,b2,b3,b4⟩:=lu D
    have mK:aW x=[x.jt.toNat,x.jf.toNat]:=by simp[aW,I,l,D]
    have uv:=F x.jt.toNat (by rw[mK];simp);have gJ:=F x.jf.toNat (by rw[mK];simp)
    have Y:aD .i64 (b:Int) 1=((b+1:Nat):Int):=by rw[eG]<;>omega
    have W:aD .i64 ((b+1:Nat):Int) x.jt=((b+1+x.jt.toNat:Nat):Int):=by rw[eG]<;>omega
    have X:aD .i64 (b:Int) x.jf=((b+x.jf.toNat:Nat):Int):=by rw[eG]<;>omega
    have a3:aD .i64 ((b+x.jf.toNat:Nat):Int) 1=((b+1+x.jf.toNat:Nat):Int):=by rw[eG]<;>omega
    have B:=aF l;have ih:=zy2 J Z hf n (b+1+x.jt.toNat) U (r++[some (.cells x.cs)]) (λn=>by simp[hr,ax.cl,kx]) an uv z;have k:=Qn J n (b+1+x.jt.toNat) U an uv z;simp(disch:=omega)[I,B,kk,T,w,q,Q,aw,e,g,i,j,-aad];refine au (An x) ?_;simp(disch:=omega)[D,kk,x1,N,Y,W,q,e,aw,g,i,j,-aad];refine L4 (args:=[.int .i64 ((b+1+x.jt.toNat:Nat):Int)]) (cap:=[.ptr 2 0,.ptr 0 0,.ptr 3 0]) ih ?_
    simp(disch:=omega)[kk,x2,X,a3,q,e,aw,g,i,j,-aad];exact⟨(b+1+x.jf.toNat,uL f (b+1+x.jt.toNat) U),A an gJ,⟨d,gJ,by simp only[k.len,z],by simp only;omega⟩,by simp[aw,e,g,i,j,-aad],p _ _⟩
   .rw[if_neg D] at d
    have Qo:aX x.op=false:=by simpa using D
    have C:=F 0 (by simp[aW,I,l,Qo]);have B:=aF l
    have Y:aD .i64 (b:Int) 1=((b+1:Nat):Int):=by rw[eG]<;>omega
    simp(disch:=omega)[I,B,kk,T,w,q,Q,aw,e,g,i,j,-aad];refine au (An x) ?_;simp(disch:=omega)[Qo,kk,Y,q,e,aw,g,i,j,-aad];exact⟨(b+1,U),A an C,⟨d,C,z,by simp only;omega⟩,by simp[aw,e,g,i,j,-aad],p U _⟩
def zIq[aA G][aB G][gO G]{f:List af}(a:dE f=true)(b:∀x∈f,x.k<4294967296)(h:f.length<=4096) :
  FP G 347 [FL f] (.a_ [.vs (oC (pU f)) .no,.int .i64 0]):=by
 refine bt gO.afl (aaf rfl) ?_;have c:f.length<=maxLen:=aas h ag7;have d:=Oz (G:=G) f c b;rw[a] at d;simp[FL];refine au d ?_
 have i:0<f.length:=by
  have:=Zn a
  cases f with
  | nil=>exact absurd rfl this
  | cons x f=>simp
 have k:=zy2 (G:=G) a b c f.length 0 (aaJ f.length false) [] (λn=>rfl) an i ir;simp(disch:=omega)[FL,aw,az];refine L4 (args:=[.int .i64 ((0:Nat):Int)]) (cap:=[.ptr 2 0,.ptr 0 0,.ptr 3 0]) k ?_;have e:(pU f).length=f.length:=(zwY a).1;have g:=Zy (pU f);rw[e] at g;rw[show uL f 0 (aaJ f.length false)=pU f from rfl];simp[HM,e,g]
def Us{m:List Bool}{i:Nat}{t:Bool}(h:m[i]?=some t):bQ m (i+1)=bQ m i+(if t=true then 1 else 0):=by
 rw[bQ,bQ,aat,h,abl,abj]
 cases t<;>simp
def zGY{m:List Bool}{i:Nat}(h:m[i]?=some true)(o:Nat):bQ m (i+1+o)=bQ m i+1+bQ (m.drop (i+1)) o:=by rw[zqT,Us h];simp
def oU(f:List af)(m:List Bool)(i:Nat):List af:=(ej f m).take (bQ m i)
def zGZ{f:List af}{m:List Bool}{i:Nat}(h:m[i]?=some false):oU f m (i+1)=oU f m i:=by rw[oU,oU,Us h];rfl
def zEN{f:List af}{m:List Bool}{i:Nat}{x:af}(b:f.length=m.length)(c:f[i]?=some x)(h:m[i]?=some true):oU f m (i+1)=oU f m i++[ma (m.drop (i+1)) x]:=by
 have a:=Uj f m i b;obtain⟨d,rfl⟩:=aag.1 c;obtain⟨g,e⟩:=aag.1 h;rw[aaj d,aaj g,e,ej] at a
 have j:(ej f m)[bQ m i]?=some (ma (m.drop (i+1)) f[i]):=by rw[<-List.head?_drop,a];rfl
 rw[oU,oU,Us h,if_pos rfl,aat,j];rfl
def zEO{f:List af}{m:List Bool}(a:f.length=m.length):oU f m f.length=ej f m:=by rw[oU,aaL];rw[JP f m a,a,bQ,aaA];exact aaq _
def zEP(f:List af)(m:List Bool)(i:Nat):(oU f m i).length<=i:=by rw[oU,aal];have:=L3 m i;omega
def oV(m:List Bool)(i:Nat):List Nat:=(aaT m.length).map λj=>if j<i then bQ m j else 0
def zwZ(m:List Bool)(i:Nat):(oV m i).length=m.length:=by simp[oV]
def zEQ{m:List Bool}{i:Nat}(h:i<m.length):(oV m i).set i (bQ m i)=oV m (i+1):=by
 apply abn
 .simp[oV]
 intro j b c;simp only[oV,abo,List.length_map,List.length_range] at b c;rw[List.getElem_set];simp only[oV,List.getElem_map,List.getElem_range]
 by_cases e:i=j
 .subst e;simp
 .rw[if_neg e]
  by_cases a:j<i
  .rw[if_pos a,if_pos an]
  .rw[if_neg a,if_neg an]
def zw0{m:List Bool}{j:Nat}(h:j<m.length):(oV m m.length)[j]?=some (bQ m j):=by rw[oV,List.getElem?_map,List.getElem?_range h];simp[h]
def zIr[gO G]{m:List Bool}{i o:Nat}(l:m.length<=4096)(hi:m[i]?=some true)(d:i+1+o<m.length)(z:ax)(y:List V) :
  bE G (.F 348 [.int .i64 i,.int .i64 o,.ptr 1 0] [some (.cells (av .i64 (oV m m.length))),some (.cells [.rs 0 0 m.length 1]),some z,some (.cells y)] (.int .i64 (bQ (m.drop (i+1)) o:Nat))
   [some (.cells (av .i64 (oV m m.length))),some (.cells [.rs 0 0 m.length 1]),some z,some (.cells y)]):=by
 refine fh gO.afm (aaf rfl) ?_;have e:aD .i64 (i:Int) 1=((i+1:Nat):Int):=bD an;have f:aD .i64 ((i+1:Nat):Int) (o:Int)=((i+1+o:Nat):Int):=rj an;have n:=L3 m (i+1+o);have p:=zGY hi o;have a:=D4 .i64 (zw0 (m:=m) (j:=i+1+o) d);have b:=D4 .i64 (zw0 (m:=m) (j:=i) an)
 have g:bP .i64 (bQ m (i+1+o):Int) (bQ m i:Int)=((bQ m (i+1+o)-bQ m i:Nat):Int):=by rw[nQ]<;>omega
 have h:bP .i64 ((bQ m (i+1+o)-bQ m i:Nat):Int) 1=((bQ (m.drop (i+1)) o:Nat):Int):=by rw[nQ]<;>omega
 obtain⟨N,c⟩:=bb (oV m m.length)
 have k:N.length=m.length:=by rw[c,zwZ]
 rw[<-c] at a b |-;simp(disch:=omega)[e,f,a,b,g,h,gS,az,k,-aad]
def zIs{o:Int}(h:aX o=true):gu o=false:=by
 cases e:gu o with
 | false=>rfl
 | true =>
  simp only[gu,aaP,beq_iff_eq,decide_eq_true_eq] at e
  rcases e with e|e<;>(rw[e] at h;revert h;decide)
def zER[aA G][aB G][gO G]{f:List af}(A:dE f=true)(V:∀x∈f,x.k<4294967296)(hf:f.length<=4096) :
  FP G 349 [FL f] (.a_ [.vs (IL (prune f)) .no,.int .i64 0]):=by
 refine bt gO.afn (aaf rfl) ?_;obtain⟨W,jX,F,_⟩:=zwY A;simp[FL];refine au (zIq A V hf) ?_;obtain⟨m,X⟩:=bb (pU f)
 have Ut:prune f=ej f m:=by rw[prune,X]
 rw[<-X] at W jX F |-;have s:f.length=m.length:=W.symm
 have H:m.length<=4096:=an
 have js:(oC m).length=m.length:=by simp[oC]
 simp(disch:=omega)[FL,az,js];obtain⟨N,n⟩:∃N:Nat->List Nat,∀j,N j=oV m j:=⟨_,λ_=>rfl⟩
 have I:∀j,(N j).length=m.length:=λj=>by rw[n,zwZ]
 have Jx:aP m.length=N 0:=by
  rw[n,oV,aP]
  apply abn<;>simp
 refine aM m.length (λi=>[(0,FL f),(4,.vs (oC m) .no),(6,.ptr 1 0),(7,.int .i64 (bQ m i:Nat)),(25,.vs (oC m) .no),(26,.int .i64 m.length),(27,.int .i64 i)])
  (λi=>[some (.cells (av .i64 (N i))),some (.cells [.rs 0 0 m.length 1])]) (λ_=>True) ?_ ?_
 .simp[aw,ak,FL,Jx,s,JN]
 intro i hi _
 by_cases a:i<m.length
 .obtain⟨t,u⟩:=bb (m[i])
  have p:m[i]?=some t:=by rw[aae a,u]
  have v:(oC m)[i]?=some [.bool t]:=by simp[p]
  have r:(oC m)[i]' an=[.bool t]:=by simp[oC,u]
  have d:=wJ .i64 (N i) i (bQ m i) (by rw[I];exact a);rw[n i,zEQ a,<-n (i+1),<-n i] at d;have B:=Us p;have w:=L3 m i;have a1:aD .i64 (bQ m i:Int) 1=((bQ m i+1:Nat):Int):=bD an
  cases t with
  | true =>
   simp(disch:=omega)[bC,az,gS,v,r,d,I,a,bD,a1,B,aw,ak,FL,-aad]
  | false =>
   simp(disch:=omega)[bC,az,gS,v,r,d,I,a,bD,B,aw,ak,FL,-aad]
 have J:i=m.length:=an
 subst J;obtain⟨T,e⟩:∃T:Nat->List af,∀j,T j=oU f m j:=⟨_,λ_=>rfl⟩
 have wM:T 0=[]:=by rw[e,oU,JN,aa3]
 have K:∀j,(T j).length<=j:=λj=>by rw[e];exact zEP f m j
 simp(disch:=omega)[aw,ak,FL,-aad]
 refine aM m.length (λi=>[(4,.vs (oC m) .no),(10,.fn 348 [.ptr 1 0]),(11,.vs (IL (T i)) (.own 2)),(41,FL f),(42,.int .i64 m.length),(43,.int .i64 i)])
  (λi=>[some (.cells (av .i64 (N m.length))),some (.cells [.rs 0 0 m.length 1]),some (.zone (T i).length)]) (λ_=>True) ?_ ?_
 .simp[aw,ak,FL,wM,s]
 intro i hi _
 by_cases a:i<m.length
 .obtain⟨t,u⟩:=bb (m[i])
  have p:m[i]?=some t:=by rw[aae a,u]
  have r:(oC m)[i]' an=[.bool t]:=by simp[oC,u]
  obtain⟨x,c⟩:=bb (f[i]'(by omega));have C:=rG (f:=f) (i:=i) an;rw[<-c] at C;have c:=c.symm
  have L:f[i]?=some x:=by rw[aae an,c]
  have mw:x∈f:=c▸aau _;have jg:=V x mw;have lu:=OH A L;have M:=λo h=>Gz (o:=o) A L h;have D:x.cs=[.int .i64 x.op,.int .i64 x.jt,.int .i64 x.jf,.int .u32 (x.k:Int)]:=rfl;have Y:=An (G:=G) x;simp[IV,D] at Y;have ng:=K i
  cases t with
  | false =>
   have O:T (i+1)=T i:=by rw[e,e];exact zGZ p
   simp(disch:=omega)[bC,az,gS,r,C,c,D,O,a,bD,aw,ak,FL,-aad]
  | true =>
   have Z:T (i+1)=T i++[ma (m.drop (i+1)) x]:=by rw[e,e];exact zEN s L p
   have P:(T (i+1)).length=(T i).length+1:=by rw[Z];simp
   have Q:∀y:af,y=ma (m.drop (i+1)) x->IL (T i)++[y.cs]=IL (T (i+1)):=λy hy=>by rw[Z,hy];exact Om _ _
   have E:∀o:Nat,i+1+o<m.length->_:=λo h=>zIr (G:=G) H p h (.zone (T i).length) x.cs;rw[<-n] at E
   by_cases g:x.op=5
   .have R:(x.op==5)=true:=by simp[g]
    have L0:gu (5:Int)=false:=by decide
    have B:=Eu x.k jg
    have qF:i+1+x.k<m.length:=by have:=M x.k (by simp[aW,g,L0]);omega
    have l:=E x.k qF;have w:=L3 (m.drop (i+1)) x.k
    have uu:eP .u32 ((bQ (m.drop (i+1)) x.k:Nat):Int)=((bQ (m.drop (i+1)) x.k:Nat):Int):=by unfold eP;exact sG an
    have b:=Q ⟨x.op,x.jt,x.jf,bQ (m.drop (i+1)) x.k⟩ (by simp[ma,g]);simp only[af.cs] at l b;obtain⟨q,S⟩:=bb (bQ (m.drop (i+1)) x.k);rw[<-S] at l b uu w;simp(disch:=omega)[bC,az,gS,r,C,c,D,R,B,FL,-aad];refine kY l ir ?_;simp(disch:=omega)[ak,uu,az,b,P,a,bD,aw,-aad]
   have R:(x.op==5)=false:=aF g;simp(disch:=omega)[bC,az,gS,r,C,c,D,R,FL,-aad];refine au Y ?_;cases z:aX x.op
   .have b:=Q x (by simp[ma,g,z]);simp only[af.cs] at b;simp(disch:=omega)[az,b,P,a,bD,aw,ak,-aad]
   .obtain⟨b1,b2,b3,b4⟩:=lu z;have pF:gu x.op=false:=zIs z
    have mK:aW x=[x.jt.toNat,x.jf.toNat]:=by simp[aW,pF,g,z]
    have mq:=M x.jt.toNat (by rw[mK];simp);have gC:=M x.jf.toNat (by rw[mK];simp);have l:=E x.jt.toNat an;have U:=E x.jf.toNat an;have b:=Q ⟨x.op,(bQ (m.drop (i+1)) x.jt.toNat:Nat),(bQ (m.drop (i+1)) x.jf.toNat:Nat),x.k⟩ (by simp[ma,g,z])
    have j1:((x.jt.toNat:Nat):Int)=x.jt:=an
    have j2:((x.jf.toNat:Nat):Int)=x.jf:=an
    simp only[af.cs,j1,j2] at l U b;obtain⟨q,S⟩:=bb (bQ (m.drop (i+1)) x.jt.toNat);obtain⟨q2,IH⟩:=bb (bQ (m.drop (i+1)) x.jf.toNat);rw[<-S] at l b;rw[<-IH] at U b;simp;refine kY l (by simp[ak]) ?_;simp[ak];refine kY U (by simp[ak]) ?_;simp(disch:=omega)[ak,az,b,P,a,bD,aw,-aad]
 .have J:i=m.length:=an
  subst J
  have O:T m.length=prune f:=by rw[e,<-s,zEO s,Ut]
  simp[O]
noncomputable def uJ(f:List af)(t:List TR)(a tries most:Int):(List af×List TR)×Nat×Bool :=
 wV (sn tries 0 1000) (sn most 0 32) (sn a 0 1000).toNat (prune f) (ki t)
def zCz(t:List TR):ei (ki t)=true:=by
 unfold ki;split
 .assumption
 .rfl
def zw1{t:List TR}(h:ei t=true)(b:l_ t):T3 t:=by
 refine⟨by have:=(PN h).2;omega,λr a=>?_⟩
 have c:r.may=true:=by simp only[ei,aab] at h;exact aak.1 h.1.1 r a
 obtain⟨d,e⟩:=JC c;obtain⟨f,g,i⟩:=b r a;exact⟨aas d ag7,aas e ag7,f,g,i⟩
def ztc{f:List af}(a:∀x∈f,x.k<4294967296):∀x∈prune f,x.k<4294967296:=by intro x b;obtain⟨y,c,_,d⟩:=T4 b;have:=a y c;omega
def zxU[eo G][dK G][aA G][aB G][bV G][dy G][du G][aO G][cV G][cW G][bX G][cf G][bO G][ar G][P:dQ G][cw G][aL G][c_ G][bW G][cP G][eW G][f_ G][fH G][fI G][iP G][dh G][fK G][eK G][eA G][cQ G][gO G][fk G]
  (f:List af) (t:List TR) (d tries most:Int) (h:dE f=true) (v:∀x∈f,x.k<4294967296) (w:T3 t) (K:l_ (ki t)) :
  FP G 365 [FL f,TF t,.agg [.int .i64 d,.int .i64 tries,.int .i64 most]] (.a_ [.agg (pQ (uJ f t d tries most).1.1 (uJ f t d tries most).1.2 (uJ f t d tries most).2.1 (uJ f t d tries most).2.2),.int .i64 0]):=by
 refine bt fk.afD (aaf rfl) ?_;have j:=Lc h;have y:=zER (G:=G) h v j;obtain⟨p1,p2,_,_⟩:=T2 h;have p3:=ztc v;have z:=zEM (G:=G) d tries most;have A:=zGW (G:=G) t w.1 w.2;have L:=zCz t;obtain⟨e,B⟩:=bb (sn tries 0 1000);obtain⟨a,l⟩:=bb (sn most 0 32)
 have m:0<=a/\a<=32:=by rw[l];unfold sn;omega
 obtain⟨R,C⟩:∃R:Nat,sn d 0 1000=R:=⟨(sn d 0 1000).toNat,by unfold sn;omega⟩
 have U:R<=1000:=by
  have:sn d 0 1000<=1000:=by unfold sn;omega
  omega
 rw[uJ,<-B,<-l,C,Int.toNat_natCast];rw[<-B,<-l,C] at z;generalize prune f=F at *;generalize ki t=T at *;obtain⟨Q,D⟩:=bb (wV e a R F T);rw[<-D];simp only[FL,TF] at y A;simp[FL,TF];refine au y ?_;simp;refine au z ?_;simp;refine au A ?_;simp[aw]
 refine xe (S:=Nat×List af×List TR) (λs=>R-s.1) (λs=>[(5,.ptr 0 0),(6,.ptr 1 0),(9,.ptr 2 0),(27,.int .i64 R),(28,.int .i64 s.1)])
  (λs=>[some (.cells [.int .i64 R,.int .i64 e,.int .i64 a]),some (.cells [.vs [] .full,.vs [] .full,.int .i64 0,.bool false]),some (.cells (pQ s.2.1 s.2.2 s.1 false))])
  (λs=>s.1<=R/\(wV e a (R-s.1) s.2.1 s.2.2).1=Q.1/\s.1+(wV e a (R-s.1) s.2.1 s.2.2).2.1=Q.2.1/\(wV e a (R-s.1) s.2.1 s.2.2).2.2=Q.2.2/\dE s.2.1=true/\(∀x∈s.2.1,x.k<4294967296)/\l_ s.2.2/\ei s.2.2=true) (0,F,T) ?_ ?_
 .simp[aw,ak,pQ,FL,TF,D,p1,K,L];exact p3
 rintro⟨i,E,H⟩ ⟨hi,q1,c,b,n,o,p,r⟩;simp only at hi q1 c b n o p r |-;have I:=zAl (G:=G) E H R e a n o (zw1 r p) m;simp only[FL,TF] at I
 by_cases V:i<R
 .obtain⟨k,M⟩:∃k,R-i=k+1:=⟨R-i-1,an⟩;rw[M,wV] at q1 c b;have N:((i:Int)<(R:Int))=True:=ag5;simp[N,pQ,FL,TF];refine au I ?_
  cases u:Cf E H e a with
  | none =>
   rw[u] at q1 c b;simp only at q1 c b
   simp[Aa,pQ,FL,TF,<-q1,<-c,<-b]
  | some q =>
   rw[u] at q1 c b;simp only at q1 c b;have kk:=zwX n o p u;simp[Aa,pQ,FL,TF];have J:aD .i64 (i:Int) 1=((i+1:Nat):Int):=bD an
   have g:R-(i+1)=k:=an
   refine⟨(i+1,q.1,q.2),by simp only;omega,⟨by simp only;omega,by simp only[g];exact q1,by simp only[g];omega,by simp only[g];exact b,kk.sound,kk.k,kk.tk,kk.dB r⟩,?_,?_⟩
   .rw[J];simp[aw,-aad]
   .rw[J];simp[ak,-aad]
 .have O:i=R:=an
  subst O;rw[Nat.sub_self,wV] at q1 c b;simp only at q1 c b;simp[pQ,FL,TF,<-q1,<-c,<-b]
def zG0{t:List TR}(h:∀r∈t,r.ok):l_ t:=λr a=>⟨(h r a).2.2.1,(h r a).2.2.2.1,(h r a).2.2.2.2⟩
def zCA{t:List TR}(h:l_ t):l_ (ki t):=by
 unfold ki;split
 .exact h
 .intro r a;cases a
def zIt{f:List af}{t:List TR}(a tries most:Int)(b:dE f=true)(c:∀x∈f,x.k<4294967296)(d:l_ t):He (prune f) (ki t) (uJ f t a tries most) :=
 zuu _ (T2 b).1 (ztc c) (zCA d)
end Go.Ev
