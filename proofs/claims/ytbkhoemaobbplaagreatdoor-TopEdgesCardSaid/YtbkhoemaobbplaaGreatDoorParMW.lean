/- Numbers, names, conditions and lines read off any text: plain. -/
import Derived.Test.YtbkhoemaobbplaaGreatDoorEvXW
import Derived.Test.YtbkhoemaobbplaaGreatDoorEvLW
set_option linter.defProp false
set_option linter.unusedSimpArgs false
set_option linter.unusedVariables false
set_option maxHeartbeats 32000000
set_option maxRecDepth 10000
open Nat renaming le_of_ble_eq_true->aaa,le_refl->aaD,pow_le_pow_right->aby,sub_self->abD,not_lt_zero->abH,zero_add->ab0,zero_le->ab5,lt_or_ge->acd,add_sub_cancel_left->acG,mod_lt->acX,add_assoc->acY,add_zero->ac4,eq_or_lt_of_le->ac5,sub_zero->ac7,one_le_two_pow->ac8,mul_comm->adg,mod_eq_of_lt->adq,add_comm->adv,pow_succ->adw
open Int renaming natCast_add->aab,eq_ofNat_of_zero_le->aaF,natCast_mul->abh,toNat->ab2,natCast_ediv->acz,toNat_natCast->adl,mul_emod->adx
open List renaming getElem?_eq_getElem->aae,getElem?_eq_some_iff->aaf,getElem?_append_left->aah,take_of_length_le->aai,getElem?_append_right->aaj,reduceReplicate->aak,mem_map->aan,mem_of_getElem?->aao,map_append->aap,mem_append->aaq,length_take->aas,set_append_right->aau,cons_append->aav,getElem?_set_ne->aaA,getElem?_set_self->aaG,mem_singleton->aaH,take_add_one->aaK,mem_of_mem_take->aaQ,length_append->aaU,zipWith->aaY,nodup_append->aa1,length_cons->aa2,map_cons->aa6,mem_cons->aa7,take_length->abb,drop_drop->abc,getElem?_of_mem->abd,length_eq_zero_iff->abe,nil_append->abf,getElem?_take->abg,mem_of_mem_tail->abi,mem_of_mem_drop->abj,take_left'->abk,append_assoc->abm,length_pos_iff->abn,length_set->abt,append_nil->abu,length_filter_le->abv,takeWhile_cons_of_pos->abw,getElem?_map->abx,mem_of_find?_eq_some->abz,drop_eq_getElem_cons->abA,set_append_left->abB,replicate->abC,replicate_succ->abF,takeWhile_append_dropWhile->abG,drop_left'->abI,zipWith_cons_cons->abM,concat_eq_append->abR,length_nil->abV,cons->abW,getElem?_drop->ab1,getElem?_cons_succ->ab3,getElem?_set->ab4,drop_eq_nil_of_le->ab6,length->ab8,all_eq_true->ab9,eq_nil_or_concat->ab_,take_append_drop->aca,map_map->acf,map_congr_left->acg,length_take_le->ach,drop_zero->acj,mem_range->acm,find?_eq_none->acn,filter_append->acq,ext_getElem?->acs,mem_or_eq_of_mem_set->acw,getElem_mem->acx,drop_length->acA,length_drop->acB,filter_cons->acD,map_set->acE,append_cancel_left->acF,headD_cons->acI,length_map->acP,mem_filter->acQ,find?_cons_of_neg->acS,tail_cons->acT,getElem?_zipWith->acU,drop_eq_nil_iff->acV,drop_one->acZ,sum_cons->ac0,take_succ_cons->ac1,getElem_of_mem->ac2,map_nil->ac6,mem_replicate->adb,prefix_append->ade,set_cons_zero->adf,foldl_append->adh,flatten_cons->adj,not_mem_nil->adr,prefix_refl->adt
open Option renaming map->aaw,isSome_iff_exists->aaJ,some->aa_,getD_some->abp,not_isNone->abQ,map_eq_some_iff->ab7,isSome_some->acr,getD_none->acy,map_some->acR
open Bool renaming false_eq_true->aaE,and_eq_true->aaI,eq_iff_iff->aba,false_or->abT,or_eq_false_iff->ace
open Function renaming comp_def->aaZ
open UInt8 renaming ofNat->abJ,toNat_inj->abU,toNat_ofNat'->abX,toNat->adz
open Prod renaming ext->ack,mk->adu
open BitVec renaming toNat_ofNat->ac3
namespace Go.Ev
open Go Go.RowKit
def qq{a b c:Int}(h:a+b=c:=by omega)(d:-9223372036854775808<=c:=by omega)(e:c<=9223372036854775807:=by omega):aC .i64 a b=c:=by subst h;exact eB d e
open Classical in
noncomputable def yV{α:Type}(p:α->Prop):Option α:=if h:∃x,p x then some h.choose else none
section
variable {α:Type} {p:α->Prop} {x:α}
def GG(h:yV p=some x):p x:=by
 unfold yV at h;split at h
 .rename_i a;cases h;exact a.choose_spec
 .cases h
def OW(h:yV p=none)(x:α):¬p x:=by
 unfold yV at h;split at h
 .cases h
 .rename_i a;exact λb=>a ⟨x,b⟩
def Lr(a:p x)(b:∀y,p y->y=x):yV p=some x:=by
 cases h:yV p with
 | none=>exact absurd a (OW h x)
 | some y=>rw[b y (GG h)]
def GH(h:∀x,¬p x):yV p=none:=by
 cases a:yV p with
 | none=>rfl
 | some y=>exact absurd (GG a) (h y)
end
def zGu:∀a,a<16->∀b,b<16->ku a=ku b->a=b:=by decide
def zp1:∀{a b:List Nat},(∀d∈a,d<16)->(∀d∈b,d<16)->a.map ku=b.map ku->a=b
 | [],[],_,_,_=>rfl
 | [],_::_,_,_,h=>by simp at h
 | _::_,[],_,_,h=>by simp at h
 | x::a,y::b,c,e,h=>by
  simp only[aa6,abW.injEq] at h;rw[zGu x (c x ir) y (e y ir) h.1,zp1 (λd hd=>c d (by simp[hd])) (λd hd=>e d (by simp[hd])) h.2]
def Te{l:List Nat}(b:l≠[])(c:l.head?≠some 0):0<iE l:=by
 obtain⟨n,e⟩:∃n,l.length=n:=⟨_,rfl⟩
 induction n generalizing l with
 | zero=>exact absurd (abe.1 e) b
 | succ n f =>
  rcases ab_ l with rfl|⟨m,d,rfl⟩
  .exact absurd rfl b
  .rw[abR] at *;rw[Gy]
   cases m with
   | nil=>simp at c;omega
   | cons a m =>
    have:=f (l:=a::m) ir (by simpa using c) (by simpa using e);omega
def zBu:∀(n:Nat) {a b:List Nat},a.length=n->(∀d∈a,d<16)->(∀d∈b,d<16)->a.head?≠some 0->b.head?≠some 0->iE a=iE b->a=b:=by
 intro n
 induction n with
 | zero =>
  intro a b c _ _ _ f g;have:=abe.1 c;subst this
  cases b with
  | nil=>rfl
  | cons y b=>have:=Te (l:=y::b) ir f;rw[<-g] at this;simp[iE] at this
 | succ n o =>
  intro a b c i j f p g
  rcases ab_ a with rfl|⟨m,d,rfl⟩
  .simp at c
  rcases ab_ b with rfl|⟨k,e,rfl⟩
  .have:=Te (l:=m.concat d) (by simp[abR]) f;rw[g] at this;simp[iE] at this
  rw[abR] at *;rw[abR] at *;rw[Gy,Gy] at g;have hd:=i d ir;have s:=j e ir
  have q:m.head?≠some 0:=by cases m with
   | nil=>simp
   | cons x m=>simpa using f
  have r:k.head?≠some 0:=by cases k with
   | nil=>simp
   | cons x k=>simpa using p
  rw[o (a:=m) (b:=k) (by simpa using c) (λx h=>i x (by simp[h])) (λx h=>j x (by simp[h])) q r an,show d=e by omega]
def ztU{ds:List Nat}(h:∀d∈ds,d<16)(n:1<=ds.length)(r:ds.length<=16)(s:ds.head?=some 0->ds.length=1):iE ds<18446744073709551616/\br (iE ds)=[48,120]++ds.map ku:=by
 have o:iE ds<18446744073709551616:=by
  have a:=Zy _ ds rfl h;have b:16^ds.length<=16^16:=aby ah9 r
  have c:(16:Nat)^16=18446744073709551616:=by decide
  omega
 refine⟨o,?_⟩;obtain⟨i,t,u,j,k,w,p⟩:=IP _ o;rw[t]
 congr 2
 have e:∀{l:List Nat},1<=l.length->(l.head?=some 0->l.length=1)->l.head?=some 0->l=[0]:=by
  intro l _ v f;have:=v f
  match l,this,f with
  | [x],_,f=>simp at f;rw[f]
 by_cases m:ds.head?=some 0
 .have q:=e n s m
  by_cases g:i.head?=some 0
  .rw[e k p g,q]
  .have:=Te (l:=i) (by intro h;simp[h] at k) g;rw[j,q] at this;simp[iE] at this
 .by_cases g:i.head?=some 0
  .have:=Te (l:=ds) (by intro h;simp[h] at n) m;rw[<-j,e k p g] at this;simp[iE] at this
  .exact zBu _ rfl u h g m j
def IX{n m:Nat}(c:n<18446744073709551616)(d:m<18446744073709551616)(h:br n=br m):n=m:=by obtain⟨a,e,f,g,_⟩:=IP n c;obtain⟨b,i,j,k,_⟩:=IP m d;rw[e,i] at h;rw[<-g,<-k,zp1 f j (acF h)]
noncomputable def dH(s:List UInt8):Option Nat:=yV λn=>n<18446744073709551616/\br n=s
def Tf{n:Nat}(h:n<18446744073709551616):dH (br n)=some n:=Lr ⟨h,rfl⟩ λy a=>IX a.1 h a.2
def AA{s:List UInt8}{n:Nat}(h:dH s=some n):n<18446744073709551616/\br n=s:=by unfold dH at h;have:=GG h;exact this
def EC(b:UInt8):Option Nat:=if 48<=b.toNat/\b.toNat<=57 then some (b.toNat-48) else if 97<=b.toNat/\b.toNat<=102 then some (b.toNat-87) else none
def zGv{b:UInt8}{d:Nat}(h:EC b=some d):d<16/\b=ku d:=by
 have a:∀k,k<16->(ku k).toNat=if k<10 then 48+k else 87+k:=by decide
 unfold EC at h;split at h
 .cases h;refine⟨an,abU.1 ?_⟩
  rw[a _ an];split<;>omega
 .split at h
  .cases h;refine⟨an,abU.1 ?_⟩
   rw[a _ an];split<;>omega
  .cases h
def ztV{f:UInt8->Bool}:∀{D:List UInt8},(∃b∈D,f b=false)->∃(p:Nat) (b:UInt8),D[p]?=some b/\f b=false/\∀i,i<p->∃c,D[i]?=some c/\f c=true
 | [],h=>by simp at h
 | x::D,h=>by
  cases a:f x with
  | false=>exact⟨0,x,rfl,a,λi hi=>absurd hi (abH _)⟩
  | true =>
   obtain⟨b,hb,d⟩:=h
   rcases aa7.1 hb with rfl|hb
   .rw[a] at d;cases d
   obtain⟨p,b,e,g,j⟩:=ztV (D:=D) ⟨b,hb,d⟩;refine⟨p+1,b,e,g,λi hi=>?_⟩
   cases i with
   | zero=>exact⟨x,rfl,a⟩
   | succ i=>exact j i an
def zDT{s:List UInt8}(h:dH s=none)(u:3<=s.length)(k:s.length<=18)(m:s.take 2=[48,120])(n:s[2]?=some 48->s.length=3):∃b∈s.drop 2,(EC b).isSome=false:=by
 apply Classical.byContradiction;intro o
 have p:∀b∈s.drop 2,∃d,EC b=some d:=by
  intro b a
  cases q:EC b with
  | some d=>exact⟨d,rfl⟩
  | none=>exact absurd ⟨b,a,by rw[q];rfl⟩ o
 have c:∀D:List UInt8,(∀b∈D,∃d,EC b=some d)->∃ds:List Nat,(∀d∈ds,d<16)/\D=ds.map ku:=by
  intro D
  induction D with
  | nil=>intro _;exact⟨[],ir,rfl⟩
  | cons x D r =>
   intro j;obtain⟨d,hd⟩:=j x ir;obtain⟨ds,e,f⟩:=r λb a=>j b (by simp[a]);have:=zGv hd;exact⟨d::ds,by intro y g;rcases aa7.1 g with rfl|g;exact this.1;exact e y g,by rw[this.2,f];rfl⟩
 obtain⟨ds,e,f⟩:=c _ p
 have i:s=[48,120]++ds.map ku:=by rw[<-f,<-m,aca]
 have v:s.length=2+ds.length:=by rw[i];simp;omega
 have t:ds.head?=some 0->ds.length=1:=by
  intro hd
  have:s[2]?=some 48:=by
   rw[i]
   cases ds with
   | nil=>simp at hd
   | cons x l=>simp at hd;subst hd;rfl
  have:=n this;omega
 have:=ztU e an an t;exact OW h _ ⟨this.1,by rw[this.2,<-i]⟩
def ZE{M:List (List UInt8×Int)}(g:iP M){v w:Nat}(e:v<18446744073709551616)(i:w<18446744073709551616)(h:dc M v=dc M w):v=w:=by
 have c:∀{v w:Nat},v<18446744073709551616->pS M w≠[]->br v≠pS M w:=by intro v w e d j;have f:=(g.cO _ (zX d)).2.2.1;obtain⟨r,k⟩:=zBr v e;rw[<-j,k] at f;exact f rfl
 unfold dc at h
 split at h<;>split at h
 .exact IX e i h
 .rename_i _ d;exact absurd h (c e d)
 .rename_i d _;exact absurd h.symm (c i d)
 .rename_i f l;have a:=Lp g.keys (zX f);have b:=Lp g.keys (zX l);rw[h,b] at a
  injection a with a
  injection a with _ a
  omega
noncomputable def pv(M:List (List UInt8×Int))(s:List UInt8):Option Nat:=yV λv=>v<4294967296/\dc M v=s
def Lt{M:List (List UInt8×Int)}(a:iP M){v:Nat}(b:v<4294967296):pv M (dc M v)=some v:=Lr ⟨b,rfl⟩ λy c=>ZE a an an c.2
def Th{M:List (List UInt8×Int)}{s:List UInt8}{v:Nat}(h:pv M s=some v):v<4294967296/\dc M v=s:=by unfold pv at h;have:=GG h;exact this
def ztW{M:List (List UInt8×Int)}(c:iP M){s:List UInt8}{v:Nat}(h:(s,(v:Int))∈M):pS M v=s:=by
 have d:=(c.cO _ h).2.1
 have a:∀{M:List (List UInt8×Int)},(M.map (·.2)).Nodup->(s,(v:Int))∈M->M.find? (λp=>p.2==(v:Int))=some (s,(v:Int)):=by
  intro M b h
  induction M with
  | nil=>simp at h
  | cons p M e =>
   simp only[aa6,List.nodup_cons] at b
   rcases aa7.1 h with rfl|h
   .simp
   .have d:p.2≠(v:Int):=by intro f;exact b.1 (aan.2 ⟨_,h,by simp[f]⟩)
    rw[acS (by simpa using d)];exact e b.2 h
 unfold pS;rw[a c.dk h];rfl
def ztX{M:List (List UInt8×Int)}(a:iP M){s:List UInt8}{k:Int}(h:M.find? (λp=>p.1==s)=some (s,k)):∃v:Nat,k=v/\pv M s=some v:=by
 have b:=abz h;obtain⟨_,c,_,_,d,e⟩:=a.cO _ b;simp only at c d e;obtain⟨v,rfl⟩:∃v:Nat,k=v:=⟨k.toNat,an⟩
 have f:dc M v=s:=by unfold dc;rw[ztW a b,if_neg c]
 exact⟨v,rfl,by rw[<-f];exact Lt a an⟩
def ZF{M:List (List UInt8×Int)}(c:iP M){s:List UInt8}(h:M.find? (λp=>p.1==s)=none){v:Nat}(a:dc M v=s):pS M v=[]/\br v=s:=by
 unfold dc at a;split at a
 .rename_i b;exact⟨b,a⟩
 .rename_i b;have:=Lp c.keys (zX b);rw[a,h] at this;cases this
def ZG{M:List (List UInt8×Int)}{s:List UInt8}{p:List UInt8×Int}(h:M.find? (λp=>p.1==s)=some p):p=(s,p.2):=by have:=List.find?_some h;simp only[beq_iff_eq] at this;rw[<-this]
def ztY{M:List (List UInt8×Int)}(c:iP M){s:List UInt8}(h:M.find? (λp=>p.1==s)=none) :
  pv M s=match dH s with
   | none=>none
   | some n=>if n<4294967296/\pS M n=[] then some n else none:=by
 cases e:dH s with
 | none =>
  refine GH λv a=>?_;have:=ZF c h a.2
  exact OW e v ⟨an,this.2⟩
 | some n =>
  have d:=AA e;simp only;split
  .rename_i b
   have:dc M n=s:=by unfold dc;rw[if_pos b.2,d.2]
   rw[<-this];exact Lt c b.1
  .rename_i b;refine GH λv a=>b ?_;have f:=ZF c h a.2;have:=IX (n:=v) (m:=n) an d.1 (by rw[f.2,d.2]);subst this;exact⟨a.1,f.1⟩
noncomputable def eQ(s:List UInt8):Option Nat:=yV λv=>eg v=true/\iX v=s
def Lu{v:Nat}(h:eg v=true):v<4294967296:=by simp only[eg,decide_eq_true_eq] at h;omega
def ZH{v w:Nat}(i:eg v=true)(j:eg w=true)(h:iX v=iX w):v=w:=by
 have hd:∀p∈sW,p.1.take 6≠kO:=by decide
 have g:∀{v:Nat},eg v=true->BQ v=[]->327680<=v/\v<=331775:=by
  intro v h k
  have c:v≠0/\v≠196608/\v≠2147221504/\v≠2147418112:=by refine⟨?_,?_,?_,?_⟩<;>(rintro rfl;revert k;decide)
  simp only[eg,decide_eq_true_eq] at h;omega
 have d:∀{v w:Nat},pS sW w≠[]->kO++br v≠pS sW w:=by intro v w c l;refine hd _ (zX c) ?_;show(pS sW w).take 6=kO;rw[<-l];rfl
 unfold iX at h;rw[zyh,zyh] at h
 split at h<;>split at h
 .rename_i e f;have a:=g i e;have b:=g j f;have:=IX an an (acF h);omega
 .rename_i _ c;exact absurd h (d c)
 .rename_i c _;exact absurd h.symm (d c)
 .rename_i e f;have a:=Lp IS.keys (zX e);have b:=Lp IS.keys (zX f);rw[h,b] at a
  injection a with a
  injection a with _ a
  omega
def GI{v:Nat}(a:eg v=true):eQ (iX v)=some v:=Lr ⟨a,rfl⟩ λy b=>ZH b.1 a b.2
def BT{s:List UInt8}{v:Nat}(h:eQ s=some v):eg v=true/\iX v=s:=by unfold eQ at h;have:=GG h;exact this
def gJ(w:List UInt8):Prop:=∀b∈w,b≠32
def ZI{w:List UInt8}(h:zW w):gJ w:=λb a=>(h b a).1
def ZJ{w r:List UInt8}(h:gJ w):(w++32::r).takeWhile (· !=32)=w/\(w++32::r).drop (w.length+1)=r:=by
 constructor
 .induction w with
  | nil=>simp
  | cons a w c =>
   have:=h a ir;simp only[aav];rw[abw (by simpa using this),c λb d=>h b (by simp[d])]
 .rw[<-abc];simp
def zrH{w:List UInt8}(h:gJ w):w.takeWhile (· !=32)=w:=by
 induction w with
 | nil=>rfl
 | cons a w c =>
  rw[abw (by simpa using h a ir),c λb d=>h b (by simp[d])]
def zxA{w v r q:List UInt8}(c:gJ w)(d:gJ v)(h:w++32::r=v++32::q):w=v/\r=q:=by have a:=ZJ (r:=r) c;have b:=ZJ (r:=q) d;rw[h] at a;have e:w=v:=a.1.symm.trans b.1;subst e;exact⟨rfl,a.2.symm.trans b.2⟩
def Ti:∀{a b:List (List UInt8)},a≠[]->b≠[]->(∀w∈a,gJ w)->(∀w∈b,gJ w)->aP a=aP b->a=b
 | [],_,h,_,_,_,_=>absurd rfl h
 | _,[],_,h,_,_,_=>absurd rfl h
 | [w],[v],_,_,_,_,h=>by simp only[aP] at h;rw[h]
 | [w],v::y::b,_,_,c,_,h=>by
  rw[BR v ir] at h;simp only[aP] at h
  exact absurd rfl (c w ir 32 (by rw[h];simp))
 | w::x::a,[v],_,_,_,d,h=>by
  rw[BR w ir] at h;simp only[aP] at h
  exact absurd rfl (d v ir 32 (by rw[<-h];simp))
 | w::x::a,v::y::b,_,_,c,d,h=>by
  rw[BR w ir,BR v ir] at h;have:=zxA (c w ir) (d v ir) h;rw[this.1,Ti ir ir (λz e=>c z (by simp[e])) (λz e=>d z (by simp[e])) this.2]
def Cd.df(c:Cd):Prop:=c.right=true/\c.ok
def zGw{a b:Int}(c:0<=a/\a<=5)(d:0<=b/\b<=5)(h:abJ (48+a.toNat)=abJ (48+b.toNat)):a=b:=by have:=congrArg adz h;simp only[abX] at this;omega
def zDU{a b:Int}(e:0<=a/\a<=5)(f:0<=b/\b<=5)(h:iY a=iY b):a=b:=by
 have c:a=0\/a=1\/a=2\/a=3\/a=4\/a=5:=an
 have d:b=0\/b=1\/b=2\/b=3\/b=4\/b=5:=an
 rcases c with rfl|rfl|rfl|rfl|rfl|rfl<;>rcases d with rfl|rfl|rfl|rfl|rfl|rfl<;>first|rfl|(exfalso;revert h;decide)
def zrI{c d:Cd}(l:c.df)(hd:d.df)(h:k9 c=k9 d):c=d:=by obtain⟨a,e⟩:=l;obtain⟨b,f⟩:=hd;simp only[Cd.right,decide_eq_true_eq] at a b;simp only[k9,abW.injEq,and_true] at h;have g:=zGw ⟨a.1,a.2.1⟩ ⟨b.1,b.2.1⟩ h.1.2;have i:=IX e.1 f.1 h.2.1;have j:=zDU ⟨a.2.2.1,a.2.2.2⟩ ⟨b.2.2.1,b.2.2.2⟩ h.2.2.1;have k:=IX e.2 f.2 h.2.2.2;cases c;cases d;simp only at g i j k;subst g;subst i;subst j;subst k;rfl
def Tj{c:Cd}(h:c.df):∀w∈k9 c,gJ w:=λw a=>ZI (Zz h.1 h.2 w a)
noncomputable def d_(s:List UInt8):Option Cd:=yV λc=>c.df/\aP (k9 c)=s
def zBv{c d:Cd}(a:c.df)(hd:d.df)(h:aP (k9 c)=aP (k9 d)):c=d :=
 zrI a hd (Ti (by simp[k9]) (by simp[k9]) (Tj a) (Tj hd) h)
def ZK{c:Cd}(h:c.df):d_ (aP (k9 c))=some c:=Lr ⟨h,rfl⟩ λy a=>zBv a.1 h a.2
def OX{s:List UInt8}{c:Cd}(h:d_ s=some c):c.df/\aP (k9 c)=s:=by unfold d_ at h;have:=GG h;exact this
open Go Go.RowKit
variable {G:aL}
def IY{t:List UInt8}{i:Nat}{b:UInt8}(h:t[i]?=some b)(a:b.toNat<128):Utf8.decode ⟨t.toArray⟩ i=(b.toNat,1):=by
 obtain⟨hi,c⟩:=aaf.1 h
 have d:(ByteArray.get! ⟨t.toArray⟩ (i+0))=b:=by simp[ByteArray.get!,hi,c]
 unfold Utf8.decode;simp only[d,a,if_true]
def zDV{d:Nat}(h:d<16):((ku d).toNat=48)=(d=0):=by
 have:∀d<16,((ku d).toNat=48)=(d=0):=by decide
 exact this d h
def zBw{d:Nat}(h:d<10):(ku d).toNat=48+d:=by
 have:∀d<10,(ku d).toNat=48+d:=by decide
 exact this d h
def zBx{d:Nat}(h:d<16)(a:10<=d):(ku d).toNat=87+d:=by
 have:∀d<16,10<=d->(ku d).toNat=87+d:=by decide
 exact this d h a
def zNn{a:Nat}(h:a*16<18446744073709551616):jz .u64 (a:Int) 4=((a*16:Nat):Int):=by unfold jz;rw[show min (4:Int).toNat IntKind.u64.bits=4 from rfl,show((a:Int)*2^4)=((a*16:Nat):Int) by rw[abh];rfl];exact IntWalk.u64_in _ ⟨an,an⟩
def ZL{a d:Nat}(h:a*16<18446744073709551616)(hd:d<16):vA .u64 ((a*16:Nat):Int) (d:Int)=((16*a+d:Nat):Int):=by unfold vA;rw[sv,sv,BitVec.toNat_or,ac3,ac3];simp only[IntKind.bits];have b:d<2^4:=hd;rw[adq (show a*16<2^64 from h),adq (show d<2^64 by omega),show a*16=2^4*a by omega,<-Nat.two_pow_add_eq_or_of_lt b];exact IntWalk.u64_in _ ⟨an,an⟩
def zBy[cT G](ds:List Nat)(hd:∀d∈ds,d<16)(I:1<=ds.length)(Gj:ds.length<=16)(J:ds.head?=some 0->ds.length=1):FP G 144 [.str ([48,120]++ds.map ku)] (.bc [.int .u64 (iE ds:Nat),.int .i64 0]):=by
 refine bw cT.ag4 (aaa rfl) ?_;obtain⟨N,n⟩:=bb ds.length;obtain⟨T,f⟩:∃T:List UInt8,T=[48,120]++ds.map ku:=⟨_,rfl⟩
 have K:T.length=N+2:=by rw[f];simp;omega
 have L:T.take 2=[48,120]:=by rw[f];rfl
 have w:T.drop 2=ds.map ku:=by rw[f];rfl
 have M:∀x,ds.head?=some x->T[2]?=some (ku x):=by
  intro x c
  cases ds with
  | nil=>simp at c
  | cons a l=>simp at c;subst c;rw[f];rfl
 obtain⟨x,c⟩:∃x,ds.head?=some x:=by
  cases ds with
  | nil=>simp at I
  | cons a l=>exact⟨a,rfl⟩
 have O:x<16:=hd x (List.mem_of_head? c);have z:=zDV O;obtain⟨y,k⟩:=bb (ku x)
 have o:T[2]?=some y:=by rw[k];exact M x c
 have P:=(aaf.1 o).2;rw[<-k] at z;rw[<-f];have Q:(((N:Int)+2)<3)=False:=ah8;have R:(18<(N:Int)+2)=False:=ah8;have S:((2:Int)<=(N:Int)+2)=True:=ah7;have c4:(2<N+2)=True:=ah7
 have c5:(3<(N:Int)+2)=(N≠1):=by rw[eq_iff_iff];omega
 have U:((y.toNat:Int)==48)=decide (x=0):=by
  have:((y.toNat:Int)=48)=(x=0):=by rw[<-z,eq_iff_iff];omega
  rw[aba];simp[this]
 have g:x=0->N=1:=λh=>by rw[n];exact J (by rw[c,h])
 have A:∀i,i<N->∃d,ds[i]?=some d/\d<16/\(ds.map ku)[i]?=some (ku d):=by
  intro i hi
  have e:i<ds.length:=an
  exact⟨ds[i],aae e,hd _ (acx e),by simp[aae e]⟩
 obtain⟨b,j⟩:∃b:Nat->Nat,∀i,b i=iE (ds.take i):=⟨_,λ_=>rfl⟩
 have V:b N=iE ds:=by rw[j,n,abb]
 have W:b 0=0:=by rw[j];rfl
 obtain⟨D,B⟩:=bb (ds.map ku)
 have Lw:D.length=N:=by rw[B,n];simp
 rw[<-B] at w A
 by_cases C:x=0<;>simp(disch:=omega)[K,L,w,P,Q,R,S,U,C,g]
 all_goals
  refine aO N (λi=>[(4,.int .u64 (b i:Nat)),(32,.ptr 0 0)]) (λi=>[some (.dF D i)]) (λ_=>True) ?_ ?_
  .simp[av,ak,W];exact aai (by first|omega|(have:=g C;omega))
  intro i hi _
  by_cases e:i<N
  .obtain⟨d,X,p,Y⟩:=A i e;have E:=IY Y (ztT d p).2.2
   have m:i<D.length:=an
   have Z:b (i+1)=16*b i+d:=by rw[j,j,aaK,X];exact Gy _ _
   have F:b i*16<18446744073709551616:=by
    have:=Zy i (ds.take i) (by rw[aas];omega) (λy k=>hd y (aaQ k));rw[<-j] at this;have h2:16^i<=16^15:=aby ah9 an
    have h3:(16:Nat)^15=1152921504606846976:=by decide
    omega
   have H:=zNn F;have q:=ZL F p;rw[<-Z] at q
   by_cases ZP:d<10
   .have r:=zBw ZP;have s:((48:Int)<=((48+d:Nat):Int))=True:=ah7;have t:(((48+d:Nat):Int)<=57)=True:=ah7
    have u:bO .i32 ((48+d:Nat):Int) 48=(d:Int):=by unfold bO;rw[show((48+d:Nat):Int)-48=(d:Int) by omega];exact IntWalk.i32_in _ ⟨an,an⟩
    have v:fc .u64 d=(d:Int):=IntWalk.u64_in _ ⟨an,an⟩;simp(disch:=omega)[m,E,r,s,t,u,v,H,q,av,ak,e,-aab,-abh]
   .have r:=zBx p an;have s:((48:Int)<=((87+d:Nat):Int))=True:=ah7;have t:(((87+d:Nat):Int)<=57)=False:=ah8;have b5:((97:Int)<=((87+d:Nat):Int))=True:=ah7;have b6:(((87+d:Nat):Int)<=102)=True:=ah7
    have u:bO .i32 ((87+d:Nat):Int) 97=((d-10:Nat):Int):=by unfold bO;rw[show((87+d:Nat):Int)-97=((d-10:Nat):Int) by omega];exact IntWalk.i32_in _ ⟨an,an⟩
    have b7:aC .i32 ((d-10:Nat):Int) 10=(d:Int):=by unfold aC;rw[show((d-10:Nat):Int)+10=(d:Int) by omega];exact IntWalk.i32_in _ ⟨an,an⟩
    have v:fc .u64 d=(d:Int):=IntWalk.u64_in _ ⟨an,an⟩;simp(disch:=omega)[m,E,r,s,t,u,v,b5,b6,b7,H,q,av,ak,e,-aab,-abh]
  .have:i=N:=an
   subst this
   have m:¬i<D.length:=an
   simp(disch:=omega)[m,V]
def zBz[cT G](n:Nat)(a:n<18446744073709551616):FP G 144 [.str (br n)] (.bc [.int .u64 n,.int .i64 0]):=by obtain⟨ds,b,c,d,e,f,g⟩:=IP n a;have:=zBy (G:=G) ds c e f g;rwa[<-b,d] at this
def zyi{t:List UInt8}{i:Nat}{b:UInt8}(h:t[i]?=some b)(u:¬b.toNat<128):∃r n,Utf8.decode ⟨t.toArray⟩ i=(r,n)/\128<=r/\1<=n/\i+n<=t.length/\∀j,0<j->j<n->∀c,t[i+j]?=some c->128<=c.toNat:=by
 obtain⟨hi,v⟩:=aaf.1 h
 have p:∀k,k<t.length->ByteArray.get! ⟨t.toArray⟩ k=t[k]!:=λk f=>by simp[ByteArray.get!,f]
 have w:(ByteArray.mk t.toArray).size=t.length:=by simp[ByteArray.size]
 have x:ByteArray.get! ⟨t.toArray⟩ (i+0)=b:=by rw[ac4,p i hi];simp[hi,v]
 have y:∀k c,t[i+k]?=some c->ByteArray.get! ⟨t.toArray⟩ (i+k)=c:=λk c f=>by
  obtain⟨a,g⟩:=aaf.1 f;rw[p _ a];simp[a,g]
 have l:∀k,(decide (i+k<(ByteArray.mk t.toArray).size)&&(ByteArray.get! ⟨t.toArray⟩ (i+k)).toNat/64==2)=true->i+k<t.length/\∀c,t[i+k]?=some c->128<=c.toNat:=by intro k f;simp only[aaI,decide_eq_true_eq,beq_iff_eq,w] at f;refine⟨f.1,λc d=>?_⟩;rw[y k c d] at f;omega
 have z:Utf8.runeError=65533:=rfl;unfold Utf8.decode;simp only[x];rw[if_neg u]
 have e:∃r n,(Utf8.runeError,1)=(r,n)/\128<=r/\1<=n/\i+n<=t.length/\∀j,0<j->j<n->∀c,t[i+j]?=some c->128<=c.toNat :=
  ⟨_,_,rfl,by rw[z];omega,aaD _,hi,λj a g=>by omega⟩
 split
 .rename_i a;simp only[aaI] at a;have m:=l 1 (by simpa using a.2);split
  .rename_i g;exact⟨_,_,rfl,an,an,an,λj q s c d=>by have:j=1:=an;subst this;exact m.2 c d⟩
  .exact e
 .split
  .rename_i a;simp only[aaI] at a;have m:=l 1 (by simpa using a.1.2);have o:=l 2 (by simpa using a.2);split
   .rename_i g;simp only[aaI,decide_eq_true_eq] at g
    exact⟨_,_,rfl,an,an,an,λj q s c d=>by
     have:j=1\/j=2:=an
     rcases this with rfl|rfl
     .exact m.2 c d
     .exact o.2 c d⟩
   .exact e
  .split
   .rename_i a;simp only[aaI] at a;have m:=l 1 (by simpa using a.1.1.2);have o:=l 2 (by simpa using a.1.2);have A:=l 3 (by simpa using a.2);split
    .rename_i g;simp only[aaI,decide_eq_true_eq] at g
     exact⟨_,_,rfl,an,an,an,λj q s c d=>by
      have:j=1\/j=2\/j=3:=an
      rcases this with rfl|rfl|rfl
      .exact m.2 c d
      .exact o.2 c d
      .exact A.2 c d⟩
    .exact e
   .exact e
def ZQ{t:List UInt8}{m:UInt8}(q:m.toNat<128){i k:Nat}(c:i<k)(s:k<=t.length)(d:∀j,i<=j->j<k->t[j]?≠some m)(f:k<t.length->t[k]?=some m) :
  ∃r n,Utf8.decode ⟨t.toArray⟩ i=(r,n)/\r≠m.toNat/\1<=n/\i+n<=k:=by
 obtain⟨b,a⟩:∃b,t[i]?=some b:=⟨_,aae an⟩
 by_cases h:b.toNat<128
 .refine⟨_,_,IY a h,λe=>d i (aaD _) c ?_,aaD _,c⟩;rw[a,abU.1 e]
 .obtain⟨r,n,g,u,l,v,o⟩:=zyi a h;refine⟨r,n,g,an,l,?_⟩
  rcases acd k (i+n) with w|p
  .have:=o (k-i) an an m (by rw[show i+(k-i)=k by omega];exact f an);omega
  .exact p
def Tn[cT G](s:List UInt8)(X:s.length<4611686018427387904):FP G 144 [.str s] (.bc [.int .u64 ((dH s).getD 0:Nat),.int .i64 (if dH s=none then 2 else 0)]):=by
 cases I:dH s with
 | some n =>
  obtain⟨O,t⟩:=AA I;rw[<-t]
  exact zBz n O
 | none =>
  refine bw cT.ag4 (aaa rfl) ?_;simp only[acy,if_true]
  by_cases e:(s.length:Int)<3
  .simp[e]
  by_cases l:18<(s.length:Int)
  .simp[e,l]
  have u:((2:Int)<=(s.length:Int))=True:=ah7;have J:(2<s.length)=True:=ah7
  by_cases g:s.take 2=[48,120]
  .obtain⟨y,P⟩:=bb (s[2]'(by omega))
   have K:s[2]?=some y:=by rw[aae an,P]
   have L:=(aaf.1 K).2
   by_cases m:((y.toNat:Int)==48)=true/\3<(s.length:Int)
   .simp(disch:=omega)[e,l,u,J,g,L,m.1,m.2]
   .obtain⟨Q,R,T⟩:=zDT I an an g (λh=>by
     rw[K] at h;cases h;apply Classical.byContradiction;intro Y
     exact m ⟨rfl,an⟩)
    obtain⟨p,b,p1,p2,p3⟩:=ztV (f:=λb=>(EC b).isSome) ⟨Q,R,T⟩;obtain⟨D,x⟩:=bb (s.drop 2)
    have Z:D.length=s.length-2:=by rw[x];simp
    rw[<-x] at p1 p3;have oE:p<D.length:=(aaf.1 p1).1;have z:D.take (s.length-2)=D:=aai an;obtain⟨w,U,A⟩:∃w,((y.toNat:Int)==48)=w/\(w=true->(3<(s.length:Int))=False):=⟨_,rfl,λh=>eq_false λt=>m ⟨h,t⟩⟩;cases w
    all_goals
     try replace A:=A rfl
     simp(disch:=omega)[e,l,u,J,g,L,U,A,<-x,z];refine u5 (S:=Nat×Int) (λq=>p+1-q.1) (λq=>[(4,.int .u64 q.2),(32,.ptr 0 0)]) (λq=>[some (.dF D q.1)]) (λq=>q.1<=p) (0,0) ?_ ?_
     .simp[av,ak]
     rintro⟨i,v⟩ hi;simp only at hi |-
     have B:i<D.length:=an
     rcases ac5 hi with V|W
     .subst V
      have a:∃r n,Utf8.decode ⟨D.toArray⟩ i=(r,n)/\¬(48<=r/\r<=57)/\¬(97<=r/\r<=102):=by
       by_cases M:b.toNat<128
       .refine⟨_,_,IY p1 M,?_⟩;unfold EC at p2;split at p2
        .cases p2
        .split at p2
         .cases p2
         .exact⟨by assumption,by assumption⟩
       .obtain⟨r,n,C,N,_⟩:=zyi p1 M;exact⟨r,n,C,an,an⟩
      obtain⟨r,n,o,r1,r2⟩:=a
      by_cases j:(48:Int)<=(r:Int)<;>by_cases k:(r:Int)<=57<;>by_cases E:(97:Int)<=(r:Int)<;>by_cases F:(r:Int)<=102<;>first
       | (exfalso;omega)
       | (simp[B,o,j,k,E,F,av,ak];done)
     .obtain⟨c,C,N⟩:=p3 i W;obtain⟨d,hd⟩:=aaJ.1 N
      have a:c.toNat<128/\(48<=c.toNat/\c.toNat<=57\/97<=c.toNat/\c.toNat<=102):=by
       unfold EC at hd;split at hd
       .exact⟨an,.inl (by assumption)⟩
       .split at hd
        .exact⟨an,.inr (by assumption)⟩
        .cases hd
      have o:=IY C a.1
      rcases a.2 with a|a
      .have j:((48:Int)<=(c.toNat:Int))=True:=ah7;have k:((c.toNat:Int)<=57)=True:=ah7;simp[B,o,j,k,av,ak];exact⟨(i+1,vA .u64 (jz .u64 v 4) (fc .u64 (bO .i32 c.toNat 48))),by simp only;omega,by simp only;omega,by simp[av],by simp[ak]⟩
      .have j:((48:Int)<=(c.toNat:Int))=True:=ah7;have k:((c.toNat:Int)<=57)=False:=ah8;have E:((97:Int)<=(c.toNat:Int))=True:=ah7;have F:((c.toNat:Int)<=102)=True:=ah7;simp[B,o,j,k,E,F,av,ak];exact⟨(i+1,vA .u64 (jz .u64 v 4) (fc .u64 (aC .i32 (bO .i32 c.toNat 97) 10))),by simp only;omega,by simp only;omega,by simp[av],by simp[ak]⟩
  .have H:(s.take 2==[48,120])=false:=by simpa using g
   simp[e,l,u,g,H]
def v8(M:List (List UInt8×Int)):List (V×V):=M.map λp=>(.str p.1,.int .u32 p.2)
def ZS{s:List UInt8}:∀{M:List (List UInt8×Int)} (i:Nat),M.find? (λp=>p.1==s)=none->kc (.sc .str) (.str s) (v8 M) i=some none
 | [],i,_=>rfl
 | p::M,i,h=>by
  rw[acn] at h
  have b:(s==p.1)=false:=by have:=h p ir;simp only[beq_iff_eq] at this;simpa using λe=>this e.symm
  have a:=ZS (M:=M) (i+1) (by rw[acn];exact λq c=>h q (by simp[c]));simp only[v8] at a;simp only[v8,aa6,kc,ka,qP,b,a]
def ZT{s:List UInt8}{v:Int}:∀{M:List (List UInt8×Int)} (i:Nat),M.find? (λp=>p.1==s)=some (s,v)->∃j,kc (.sc .str) (.str s) (v8 M) i=some (some (j,.int .u32 v))
 | [],i,h=>by simp at h
 | p::M,i,h=>by
  by_cases e:p.1=s
  .rw[List.find?_cons_of_pos (by simpa using e)] at h;cases h;exact⟨i,by simp[v8,kc,ka,qP]⟩
  .rw[acS (by simpa using e)] at h;obtain⟨j,a⟩:=ZT (i+1) h
   have b:(s==p.1)=false:=by simpa using λe'=>e e'.symm
   simp only[v8] at a;exact⟨j,by simp only[v8,aa6,kc,ka,qP,b,a]⟩
def mH(M:List (List UInt8×Int)):ae:=[some (.map (v8 M))]
def zDW[bW G]{M:List (List UInt8×Int)}(a:iP M)(v:Nat):bE G (.F 393 [.mp 0,.int .u32 v] (mH M) (.str (pS M v)) (mH M)) :=
 .nat bW.afB rfl ⟨rfl,M,rfl,a.dk,rfl⟩
def zDX[bW G](v:Nat):bE G (.F 393 [.nilm,.int .u32 v] [] (.str []) []) :=
 .nat bW.afB rfl ⟨rfl,rfl⟩
def To(M:List (List UInt8×Int)):ak 1 [some (.map (v8 M))]=[some (.map (v8 M))]:=by simp[ak,ay.cl,v8,aaZ,V.cl]
def zxB[c_ G]:bE G (.F 449 [] [] (.mp 0) (mH qj)):=by refine fg c_.agd (aaa rfl) ?_;simp[mH,v8,qj]
def zDY[c_ G](a:Nat){M:List (List UInt8×Int)}(h:GF a=some M):bE G (.F 450 [.int .u32 a] [] (.mp 0) (mH M)):=by
 refine fg c_.age (aaa rfl) ?_;unfold GF at h;split at h
 .rename_i b;cases h;simp[b,mH,v8,C8,C9,Gz,C_,Db,GC,Dc,GD]
 .split at h
  .rename_i b c;cases h;simp[c,mH,v8,C8,C9,Gz,C_,Db,GC,Dc,GD]
  .split at h
   .rename_i b c d;cases h;simp[d,mH,v8,C8,C9,C_,Db,Dc,GD]
   .split at h
    .rename_i b c d e;cases h;simp[e,mH,v8,C8,C9,Gz,C_,Db,GC,Dc]
    .cases h
def zBA[c_ G](a:Nat)(h:GF a=none):bE G (.F 450 [.int .u32 a] [] .nilm []):=by
 refine fg c_.age (aaa rfl) ?_;unfold GF at h;split at h
 .cases h
 .split at h
  .cases h
  .split at h
   .cases h
   .split at h
    .cases h
    .rename_i f g i j
     have b:((a:Int)==3221225534)=false:=by simp;omega
     have c:((a:Int)==1073741827)=false:=by simp;omega
     have d:((a:Int)==3221225655)=false:=by simp;omega
     have e:((a:Int)==1073741864)=false:=by simp;omega
     simp[b,c,d,e]
def j8(k:IntKind)(o:Option Nat):V:=.bc [.int k ((o.getD 0:Nat):Int),.int .i64 (if o=none then 2 else 0)]
def ZU[cT G][bW G][c_ G]{M:List (List UInt8×Int)}(k:iP M)(s:List UInt8)(q:s.length<4611686018427387904)(m:V)(H:ae)
  (c:m=.mp 0/\H=mH M\/m=.nilm/\H=[]/\M=[]):bE G (.F 452 [m,.str s] H (j8 .u32 (pv M s)) H):=by
 refine fg c_.agf (aaa rfl) ?_;have d:=Tn (G:=G) s q
 cases b:M.find? (λp=>p.1==s) with
 | some p =>
  rcases c with⟨rfl,rfl⟩|⟨_,_,rfl⟩
  .rw[ZG b] at b;obtain⟨v,r,a⟩:=ztX k b;obtain⟨j,f⟩:=ZT 0 b;simp[mH,f,a,r,j8]
  .simp at b
 | none =>
  have f:=ZS 0 b;have a:=ztY k b
  cases l:dH s with
  | none =>
   rw[l] at d a;simp only at a;rw[a]
   rcases c with⟨rfl,rfl⟩|⟨rfl,rfl,rfl⟩ <;>
   .simp[mH,f];refine aw d ?_
    simp[j8,To]
  | some n =>
   have x:=(AA l).1;rw[l] at d a;simp only at a;rw[a];have o:jZ .u64 n 32=((n/4294967296:Nat):Int):=shU (n:=n) (e:=32) ah9
   by_cases g:n<4294967296
   .have i:fc .u32 n=(n:Int):=IntWalk.u32_in _ ⟨an,an⟩;rw[Nat.div_eq_of_lt g] at o
    have w:bE G (.F 393 [m,.int .u32 n] H (.str (pS M n)) H):=by
     rcases c with⟨rfl,rfl⟩|⟨rfl,rfl,rfl⟩
     .exact zDW k n
     .exact zDX n
    rcases c with⟨rfl,rfl⟩|⟨rfl,rfl,rfl⟩
    all_goals
     try simp only[mH] at w |-
     simp[f];refine aw d ?_;simp[o,i];refine zG w ?_
    .by_cases h:pS M n=[]
     .simp[h,g,i,j8,To]
     .have t:(pS M n).isEmpty=false:=by simpa using h
      simp[h,t,g,i,j8,To]
    .have h:pS [] n=[]:=rfl;simp[h,g,i,j8]
   .have u:4294967296<=n:=an
    rcases c with⟨rfl,rfl⟩|⟨rfl,rfl,rfl⟩ <;>
    .simp[mH,f,g];refine aw d ?_;simp[o,u,j8,To,-acz]
def zrJ[cT G][bW G][c_ G](s:List UInt8)(c:s.length<4611686018427387904):FP G 454 [.str s] (j8 .u32 (pv qj s)):=by refine bw c_.agh (aaa rfl) ?_;have a:=zxB (G:=G);have b:=ZU (G:=G) Ey s c _ _ (.inl ⟨rfl,rfl⟩);simp only[mH,j8] at a b |-;simp;refine vh a ir ?_;simp;refine zG b ?_;simp
def zv9[cT G][bW G][c_ G](a:Nat)(s:List UInt8)(f:s.length<4611686018427387904):FP G 456 [.int .u32 a,.str s] (j8 .u32 (pv (pq a) s)):=by
 refine bw c_.agi (aaa rfl) ?_;have g:=Ez a
 cases c:GF a with
 | none =>
  have e:pq a=[]:=by simp[pq,c]
  have d:=zBA (G:=G) a c;have b:=ZU (G:=G) g s f _ _ (.inr ⟨rfl,rfl,e⟩);simp only[j8] at b |-;simp;refine vh d ir ?_;simp;refine zG b ?_
  simp
 | some M =>
  have e:pq a=M:=by simp[pq,c]
  have d:=zDY (G:=G) a c;have b:=ZU (G:=G) g s f _ _ (.inl ⟨rfl,rfl⟩);rw[e] at b |-;simp only[mH,j8] at d b |-;simp;refine vh d ir ?_;simp;refine zG b ?_;simp
def zDZ{s:List UInt8}{k:Int}(h:sW.find? (λp=>p.1==s)=some (s,k)):∃v:Nat,k=v/\eQ s=some v:=by
 have a:=abz h
 have c:∀p∈sW,p.2=0\/p.2=196608\/p.2=2147221504\/p.2=2147418112:=by decide
 have d:=c _ a;have b:=(IS.cO _ a).2.1;simp only at d b;obtain⟨v,rfl⟩:∃v:Nat,k=v:=⟨k.toNat,an⟩;have e:BQ v=s:=ztW IS a
 have f:eg v=true:=by simp only[eg,decide_eq_true_eq];omega
 have g:iX v=s:=by unfold iX;rw[e,if_neg b]
 exact⟨v,rfl,by rw[<-g];exact GI f⟩
def Tp{s:List UInt8}(h:sW.find? (λp=>p.1==s)=none){v:Nat}(c:eg v=true)(b:iX v=s):∃k,v=327680+k/\k<=4095/\s=kO++br k:=by
 by_cases a:BQ v=[]
 .have e:v≠0/\v≠196608/\v≠2147221504/\v≠2147418112:=by refine⟨?_,?_,?_,?_⟩<;>(rintro rfl;revert a;decide)
  simp only[eg,decide_eq_true_eq] at c;exact⟨v-327680,an,an,by rw[<-b];exact if_pos a⟩
 .have:=Lp IS.keys (zX (v:=v) a)
  have d:pS sW v=s:=by rw[<-b];exact(if_neg a).symm
  rw[d,h] at this;cases this
def ZV{k:Nat}(h:k<=4095):eQ (kO++br k)=some (327680+k):=by
 have a:eg (327680+k)=true:=by simp only[eg,decide_eq_true_eq];omega
 have b:BQ (327680+k)=[]:=by
  apply Classical.byContradiction;intro c
  have d:∀p∈sW,p.2=0\/p.2=196608\/p.2=2147221504\/p.2=2147418112:=by decide
  have:=d _ (zX (v:=327680+k) c);simp only at this;omega
 have e:iX (327680+k)=kO++br k:=by rw[iX,if_pos b,show 327680+k-327680=k by omega]
 rw[<-e];exact GI a
def zmy[cT G][bW G][c_ G](s:List UInt8)(B:s.length<4611686018427387904):FP G 457 [.str s] (j8 .u32 (eQ s)):=by
 refine bw c_.agj (aaa rfl) ?_;have w:=Ta (G:=G);have r:(sW.map λp:List UInt8×Int=>((V.str p.1,V.int .u32 p.2):V×V))=v8 sW:=rfl;rw[r] at w
 cases c:sW.find? (λp=>p.1==s) with
 | some p =>
  rw[ZG c] at c;obtain⟨v,t,a⟩:=zDZ c;obtain⟨j,e⟩:=ZT 0 c;simp;refine vh w ir ?_
  simp[e,a,t,j8]
 | none =>
  have e:=ZS 0 c
  by_cases f:(s.length:Int)<6
  .have a:eQ s=none:=GH λv b=>by
    obtain⟨k,_,_,g⟩:=Tp c b.1 b.2;rw[g] at f;simp[kO] at f;omega
   simp;refine vh w ir ?_;simp[e,f,a,j8]
  have i:((6:Int)<=(s.length:Int))=True:=ah7
  by_cases d:s.take 6=[101,114,114,111,114,58]
  .have h:=Tn (G:=G) (s.drop 6) (by simp;omega)
   have u:s=kO++s.drop 6:=by rw[show kO=s.take 6 from d.symm,aca]
   have m:(s.drop 6).take (s.length-6)=s.drop 6:=aai ir
   cases l:dH (s.drop 6) with
   | none =>
    have a:eQ s=none:=GH λv b=>by
     obtain⟨k,_,o,g⟩:=Tp c b.1 b.2;refine OW l k ⟨an,?_⟩;rw[g];simp[kO]
    rw[l] at h;simp;refine vh w ir ?_;simp[e,f,i,d,m,av];refine aw h ?_
    simp[a,j8]
   | some n =>
    obtain⟨_,o⟩:=AA l;rw[l] at h
    by_cases x:n<=4095
    .have a:eQ s=some (327680+n):=by rw[u,<-o];exact ZV x
     have q:(4095<(n:Int))=False:=ah8;have y:fc .u32 n=(n:Int):=IntWalk.u32_in _ ⟨an,an⟩
     have z:aC .u32 327680 (n:Int)=((327680+n:Nat):Int):=by unfold aC;rw[show(327680:Int)+(n:Int)=((327680+n:Nat):Int) by omega];exact IntWalk.u32_in _ ⟨an,an⟩
     simp;refine vh w ir ?_;simp[e,f,i,d,m,av];refine aw h ?_;simp[a,j8,q,y,z,-aab]
    .have a:eQ s=none:=GH λv b=>by
      obtain⟨k,_,C,g⟩:=Tp c b.1 b.2
      have:br n=br k:=by rw[o,g];simp[kO]
      have:=IX an an this;omega
     have q:(4095<(n:Int))=True:=ah7;simp;refine vh w ir ?_;simp[e,f,i,d,m,av];refine aw h ?_;simp[a,j8,q]
  .have A:(s.take 6==[101,114,114,111,114,58])=false:=by simpa using d
   have a:eQ s=none:=GH λv b=>by
    obtain⟨k,_,_,g⟩:=Tp c b.1 b.2;rw[g] at d;exact d rfl
   simp;refine vh w ir ?_;simp[e,f,i,d,A,a,j8]
def I0{a b:Nat}(h:a≠b):((a:Int)==(b:Int))=false:=by simp;omega
def zD0(c:Int):(iY c).length=2:=by
 unfold iY
 repeat' split
 all_goals rfl
def Lx(c:Cd):List UInt8:=aP (k9 c)
def zD1(c:Cd):Lx c=[97,abJ (48+c.arg.toNat)]++32::(br c.mask++32::(iY c.cmp++32::br c.val)):=rfl
def ztZ(c:Cd):(Lx c).length<=43:=by have a:=IQ c.mask;have b:=IQ c.val;have d:=zD0 c.cmp;rw[zD1];simp;omega
def fX(m:UInt8)(s:List UInt8):List UInt8:=s.takeWhile (· !=m)
def iF(m:UInt8)(s:List UInt8):List UInt8:=s.drop ((fX m s).length+1)
def EE(m:UInt8):∀s,(fX m s).length<=s.length/\s.take (fX m s).length=fX m s/\(∀j,j<(fX m s).length->s[j]?≠some m)/\((fX m s).length<s.length->s[(fX m s).length]?=some m)/\∀b∈fX m s,b≠m
 | []=>⟨aaD _,rfl,λj h=>absurd h (abH _),λh=>absurd h (abH _),λb h=>by simp[fX] at h⟩
 | a::s=>by
  obtain⟨c,d,e,f,g⟩:=EE m s
  by_cases h:a=m
  .subst h
   have:fX a (a::s)=[]:=by simp[fX]
   rw[this];exact⟨ab5 _,rfl,λj h=>absurd h (abH _),λ_=>rfl,λb h=>by simp at h⟩
  .have:fX m (a::s)=a::fX m s:=by unfold fX;rw[abw (by simpa using h)]
   rw[this];refine⟨by simpa using c,by simp[d],?_,by simpa using f,?_⟩
   .intro j i
    cases j with
    | zero=>simpa using h
    | succ j=>simpa using e j (by simpa using i)
   .intro b hb
    rcases aa7.1 hb with rfl|hb
    .exact h
    .exact g b hb
def zBB{m:UInt8}{s:List UInt8}(h:(fX m s).length<s.length):s=fX m s++m::iF m s:=by
 obtain⟨e,a,f,b,g⟩:=EE m s;have c:=b h;obtain⟨_,d⟩:=aaf.1 c
 conv=>lhs;rw[<-aca (fX m s).length s,a,abA h,d]
 rfl
def zGx{m:UInt8}{s:List UInt8}(h:¬(fX m s).length<s.length):fX m s=s/\iF m s=[]:=by
 obtain⟨b,a,_⟩:=EE m s
 have:s.length<=(fX m s).length:=an
 exact⟨by rw[<-a];exact aai this,ab6 an⟩
def ZW{m:UInt8}{s:List UInt8}(h:iF m s≠[]):s=fX m s++m::iF m s:=by
 by_cases a:(fX m s).length<s.length
 .exact zBB a
 .exact absurd (zGx a).2 h
def I1{w r:List UInt8}(h:gJ w):fX 32 (w++32::r)=w/\iF 32 (w++32::r)=r:=by have:=ZJ (r:=r) h;unfold iF;rw[show fX 32 (w++32::r)=w from this.1];exact⟨rfl,this.2⟩
def ZX(m:UInt8)(s:List UInt8):(iF m s).length<=s.length:=by unfold iF;simp
def ZY[gg G](s:List UInt8)(A:s.length<4611686018427387904):FP G 459 [.str s] (.bc [.str (fX 32 s),.str (iF 32 s)]):=by
 refine bw gg.agk (aaa rfl) ?_;obtain⟨f,a,g,c,_⟩:=EE 32 s;obtain⟨w,h⟩:=bb (fX 32 s);rw[<-h] at f a g c |-
 have k:iF 32 s=s.drop (w.length+1):=by rw[h];rfl
 rw[k];simp;refine u5 (S:=Nat) (λi=>s.length+1-i) (λi=>[(0,.str s),(7,.ptr 0 0)]) (λi=>[some (.dF s i)]) (λi=>i<=w.length) 0 ?_ ?_
 .simp[av,ak]
 intro i hi
 by_cases l:i<w.length
 .obtain⟨r,n,d,o,B,C⟩:=ZQ (m:=32) ah9 l f (λj _ p=>g j p) c
  have q:i<s.length:=an
  have t:((r:Int)==32)=false:=I0 (b:=32) o;simp[q,d,t,av,ak];exact⟨i+n,by simp only;omega,an,by simp[av],by simp[ak]⟩
 .have hi:i=w.length:=an
  subst hi
  by_cases e:w.length<s.length
  .have d:=IY (c e) ah9;have u:((w.length:Int)<=(s.length:Int))=True:=ah7
   have v:aC .i64 w.length 1=(w.length+1:Nat):=qq
   have x:(s.drop (w.length+1)).take (s.length-(w.length+1))=s.drop (w.length+1):=aai ir;have y:(((w.length+1:Nat):Int)<=(s.length:Int))=True:=ah7;simp[e,d,u,v,x,y,a,av,ak,-aab]
  .have hd:s.drop (w.length+1)=[]:=ab6 an
   have z:w=s:=by rw[<-a];exact aai an
   simp[e,hd,z,av,ak]
def v9(o:Option Cd):V:=.bc [.agg (o.getD ⟨0,0,0,0⟩).cs,.int .i64 (if o=none then 2 else 0)]
def zxC{s:List UInt8}{c:Cd}(a:c.df):aP (k9 c)=s ↔
  fX 32 s=[97,abJ (48+c.arg.toNat)]/\dH (fX 32 (iF 32 s))=some c.mask/\fX 32 (iF 32 (iF 32 s))=iY c.cmp/\dH (iF 32 (iF 32 (iF 32 s)))=some c.val:=by
 have w:=Tj a;simp only[k9,aa7,adr,or_false,forall_eq_or_imp,forall_eq] at w;obtain⟨k,l,n,_⟩:=w;constructor
 .intro h;rw[show aP (k9 c)=[97,abJ (48+c.arg.toNat)]++32::(br c.mask++32::(iY c.cmp++32::br c.val)) from rfl] at h;have b:=I1 (r:=br c.mask++32::(iY c.cmp++32::br c.val)) k;have f:=I1 (r:=iY c.cmp++32::br c.val) l;have g:=I1 (r:=br c.val) n;rw[h] at b;rw[b.2,f.1,f.2,g.1,g.2];exact⟨b.1,Tf a.2.1,rfl,Tf a.2.2⟩
 .rintro⟨o,p,q,t⟩;have i:=(AA t).2;have u:=(AA p).2;have d:=ZW (m:=32) (s:=iF 32 (iF 32 s)) (by rw[<-i];exact zv7 _);have e:=ZW (m:=32) (s:=iF 32 s) (by rw[d];simp);have j:=ZW (m:=32) (s:=s) (by rw[e];simp);rw[<-i,q] at d;rw[<-u,d] at e;rw[o,e] at j;rw[j];rfl
def zwa{s:List UInt8}{c:Cd}(a:c.df)(h:aP (k9 c)=s):d_ s=some c:=by rw[<-h];exact ZK a
def zwb(f:Nat->Bool):∀n,∃N,N<=n/\(∀i,i<N->f i=false)/\(N<n->f N=true)
 | 0=>⟨0,aaD _,λi h=>absurd h (abH _),λh=>absurd h (abH _)⟩
 | n+1=>by
  obtain⟨N,d,a,c⟩:=zwb f n
  rcases acd N n with h|h
  .exact⟨N,an,a,λ_=>c h⟩
  .have:N=n:=an
   subst this
   cases b:f N with
   | true=>exact⟨N,an,a,λ_=>b⟩
   | false=>exact⟨N+1,aaD _,λi hi=>by rcases acd i N with h|h;exact a i h;rw[show i=N by omega,b],λh=>absurd h (Nat.lt_irrefl _)⟩
def zuL[cT G][di G][gg G](s:List UInt8)(T:s.length<4611686018427387904):FP G 460 [.str s] (v9 (d_ s)):=by
 refine bw gg.agl (aaa rfl) ?_;have l1:=ZX 32 s;have l2:=ZX 32 (iF 32 s);have l3:=ZX 32 (iF 32 (iF 32 s));have l4:=(EE 32 (iF 32 s)).1;have q1:=ZY (G:=G) s T;have o:=ZY (G:=G) (iF 32 s) an;have p:=ZY (G:=G) (iF 32 (iF 32 s)) an;have p1:=Tn (G:=G) (fX 32 (iF 32 s)) an;have p2:=Tn (G:=G) (iF 32 (iF 32 (iF 32 s))) an;have f:=λc b=>zxC (s:=s) (c:=c) b
 generalize hA:fX 32 s=A at *;generalize hM:fX 32 (iF 32 s)=M at *;generalize hC:fX 32 (iF 32 (iF 32 s))=C at *;generalize hV:iF 32 (iF 32 (iF 32 s))=V3 at *;generalize iF 32 (iF 32 s)=R2 at *;generalize iF 32 s=R1 at *
 have r:(∀c:Cd,c.df->¬(A=[97,abJ (48+c.arg.toNat)]/\dH M=some c.mask/\C=iY c.cmp/\dH V3=some c.val))->d_ s=none :=
  λh=>GH λc b=>h c b.1 ((f c b.1).1 b.2)
 by_cases d:A.length=2
 .obtain⟨x,y,rfl⟩:∃x y,A=[x,y]:=by
   match A,d with
   | [x,y],_=>exact⟨x,y,rfl⟩
  by_cases t:x=97/\48<=y.toNat/\y.toNat<=53
  .obtain⟨rfl,y1,y2⟩:=t;have U:((y.toNat:Int)<48)=False:=ah8;have W:(53<(y.toNat:Int))=False:=ah8
   have X:bO .u8 y.toNat 48=((y.toNat-48:Nat):Int):=by unfold bO;rw[show(y.toNat:Int)-48=((y.toNat-48:Nat):Int) by omega];exact IntWalk.u8_in _ ⟨an,an⟩
   have Y:fc .i64 ((y.toNat-48:Nat):Int)=((y.toNat-48:Nat):Int):=IntWalk.i64_in _ ⟨an,an⟩
   have ya:∀a:Int,0<=a->a<=5->y=abJ (48+a.toNat)->a=((y.toNat-48:Nat):Int):=by intro a qT jE h;rw[h,abX];omega
   have u:y=abJ (48+(((y.toNat-48:Nat):Int)).toNat):=by apply abU.1;rw[abX];omega
   obtain⟨N,n1,I,J⟩:=zwb (λi=>(iY (i:Int)==C)&&(dH M).isSome&&(dH V3).isSome) 6
   have z:d_ s=if N<6 then some ⟨((y.toNat-48:Nat):Int),N,(dH M).getD 0,(dH V3).getD 0⟩ else none:=by
    split
    .rename_i j;have h:=J j;simp only[aaI,beq_iff_eq] at h;obtain⟨m,B⟩:=aaJ.1 h.1.2;obtain⟨v,D⟩:=aaJ.1 h.2;rw[B,D];have K:(⟨((y.toNat-48:Nat):Int),N,m,v⟩:Cd).df:=⟨by simp only[Cd.right,decide_eq_true_eq];omega,(AA B).1,(AA D).1⟩;exact zwa K ((f _ K).2 ⟨by simp only;rw[<-u],B,h.1.1.symm,D⟩)
    .rename_i j
     refine r λc b ⟨e,Z,g3,g4⟩=>?_
     have E:=b.1;simp only[Cd.right,decide_eq_true_eq] at E;have:=I c.cmp.toNat an;rw[show((c.cmp.toNat:Nat):Int)=c.cmp by omega,Z,g4,g3] at this;simp at this
   rw[z];simp;refine aw q1 ?_;simp;refine aw o ?_;simp;refine aw p ?_;simp[U,W];refine aw p1 ?_;simp;refine aw p2 ?_;simp;refine aw zv1 ?_
   obtain⟨k,L⟩:∃k:Int,k=if dH M=none then 2 else 0:=⟨_,rfl⟩
   obtain⟨l,O⟩:∃l:Int,l=if dH V3=none then 2 else 0:=⟨_,rfl⟩
   have step:∀w:List UInt8,((w==C)&&(dH M).isSome&&(dH V3).isSome)=false->(w==C)=false\/(w==C)=true/\(dH M).isSome=false\/(w==C)=true/\(dH M).isSome=true/\(dH V3).isSome=false:=by intro w h;revert h;generalize(w==C)=p1;generalize(dH M).isSome=p2;generalize(dH V3).isSome=p3;revert p1 p2 p3;decide
   have P:(k==0)=(dH M).isSome:=by rw[L];cases dH M<;>rfl
   have Q:(l==0)=(dH V3).isSome:=by rw[O];cases dH V3<;>rfl
   rw[<-L,<-O];generalize(dH M).getD 0=m at *;generalize(dH V3).getD 0=v at *;generalize(dH M).isSome=i1 at *;generalize(dH V3).isSome=i2 at *;simp;refine aO N (λi=>[(2,.ptr 0 0),(4,.str [97,y]),(7,.str C),(9,.int .u64 m),(10,.int .i64 k),(11,.int .u64 v),(12,.int .i64 l),(59,.agg IG),(60,.int .i64 i)]) (λ_=>[some (.cells [.int .i64 0,.int .i64 0,.int .u64 0,.int .u64 0])]) (λ_=>True) ?_ ?_
   .simp[av,ak,aZ,V.cl,IG]
   intro i hi _
   rcases ac5 hi with R|S
   .by_cases j:N<6
    .have h:=J j;simp only[aaI,beq_iff_eq] at h;obtain⟨⟨h,rfl⟩,rfl⟩:=h;subst R
     have:i=0\/i=1\/i=2\/i=3\/i=4\/i=5:=an
     rcases this with rfl|rfl|rfl|rfl|rfl|rfl<;>subst h<;>simp[iY,IG,Cd.cs,X,Y,P,Q,v9]
    .have:N=6:=an
     subst this;subst R;simp[v9,Cd.cs]
   .have hp:=I i S
    have:i=0\/i=1\/i=2\/i=3\/i=4\/i=5:=an
    rcases this with rfl|rfl|rfl|rfl|rfl|rfl
    all_goals rcases step _ hp with h|⟨h,rfl⟩|⟨h,rfl,rfl⟩
    all_goals
     first
     | change (([101,113]:List UInt8)==C)=_ at h
     | change (([110,101]:List UInt8)==C)=_ at h
     | change (([108,116]:List UInt8)==C)=_ at h
     | change (([108,101]:List UInt8)==C)=_ at h
     | change (([103,116]:List UInt8)==C)=_ at h
     | change (([103,101]:List UInt8)==C)=_ at h
     simp[h,P,Q,IG,av,ak,show aC .i64 0 1=1 from rfl,show aC .i64 1 1=2 from rfl,show aC .i64 2 1=3 from rfl,show aC .i64 3 1=4 from rfl,show aC .i64 4 1=5 from rfl,show aC .i64 5 1=6 from rfl,aZ,V.cl,S]
  .have F:d_ s=none:=r λc b ⟨e,_⟩=>t (by
    have E:=b.1;simp only[Cd.right,decide_eq_true_eq] at E;simp only[abW.injEq,and_true] at e;have:=congrArg adz e.2;rw[abX] at this
    exact⟨e.1,an,an⟩)
   rw[F];simp;refine aw q1 ?_;simp;refine aw o ?_;simp;refine aw p ?_
   by_cases n:x=97
   .by_cases g:(y.toNat:Int)<48
    .simp[n,g,v9,Cd.cs]
    .have H:(53<(y.toNat:Int))=True:=eq_true (by
      apply Classical.byContradiction;intro h
      exact t ⟨n,an,an⟩)
     simp[n,g,H,v9,Cd.cs]
   .have hx:((x.toNat:Int) !=97)=true:=by have q:x.toNat≠97:=(λh=>n (abU.1 h));simp;omega
    simp[hx,v9,Cd.cs]
 .have F:d_ s=none:=r λc b ⟨e,_⟩=>d (by rw[e];rfl);rw[F]
  have fA:((A.length:Int) !=2)=true:=by simp;omega
  simp;refine aw q1 ?_;simp;refine aw o ?_;simp;refine aw p ?_;simp[fA,v9,Cd.cs]
def znQ:∀(a:List Cd) (k:Nat) (b:List Cd),jc k (a++b)=jc k a++jc (k+a.length) b
 | [],k,b=>by simp[jc]
 | c::a,k,b=>by
  simp only[aav,jc,aa2];rw[znQ a (k+1) b,show k+1+a.length=k+(a.length+1) by omega];simp
def O0(r:Ru):List (List UInt8):=[[111,110],dc qj r.aA,dc (pq r.aA) r.nr,iX r.act]
def De(r:Ru)(i:Nat):List UInt8:=aP (O0 r++jc 0 (r.conds.take i))
def zrL(r:Ru):De r 0=[111,110,32]++dc qj r.aA++[32]++dc (pq r.aA) r.nr++[32]++iX r.act:=by simp[De,O0,jc,aP]
def zBC(r:Ru):De r r.conds.length=aP (qX r):=by rw[De,abb];rfl
def zrM{r:Ru}{i:Nat}{c:Cd}(h:r.conds[i]?=some c):De r (i+1)=De r i++(32::xP i++32::Lx c):=by
 have hi:=(aaf.1 h).1
 have a:r.conds.take (i+1)=r.conds.take i++[c]:=by rw[aaK,h];rfl
 have e:O0 r++jc 0 (r.conds.take (i+1))=(O0 r++jc 0 (r.conds.take i))++(xP i::k9 c):=by rw[a,znQ,aas,Nat.min_eq_left an,ab0];simp[jc]
 rw[De,e,zox (by simp[O0]) ir,BR _ (by simp[k9])];simp[De,Lx]
def zBD(k:Nat):(xP k).length<=3:=by unfold xP;split<;>simp
def zt0(r:Ru):∀i,i<=r.conds.length->(De r i).length<=80+50*i
 | 0,_=>by
  have a:=Tc Ey (v:=r.aA);have b:=Tc (Ez r.aA) (v:=r.nr);have d:=zv8 (v:=r.act);rw[zrL];simp
  omega
 | i+1,h=>by
  have e:=zt0 r i an;have c:r.conds[i]?=some r.conds[i]:=aae an;have a:=ztZ r.conds[i];have b:=zBD i;rw[zrM c];simp;omega
def Ru.O2(r:Ru):Prop:=(∀c∈r.conds,c.ok)/\r.aA<4294967296/\r.nr<4294967296/\r.act<4294967296
def Ly(s:List UInt8)(e d:Bool):ay:=.cells [.str s,.bool e,.bool d]
def fO(H:ae)(b:Nat)(s:List UInt8)(e d:Bool):ae:=H.set b (some (Ly s e d))
structure vl (H:ae) (b:Nat) (s:List UInt8) (e d:Bool):Prop where
 hb:H[b]?=some (some (Ly s e d))
 shut:iq H
section
variable {H:ae} {b:Nat} {s s':List UInt8} {e e' d d':Bool}
def vl.lb(h:vl H b s e d):b<H.length:=(aaf.1 h.hb).1
def vl.cU(h:vl H b s e d):H[b]?=some (some (.cells [.str s,.bool e,.bool d])):=h.hb
@[simp] theorem Df (H:ae) (b:Nat) (s:List UInt8) (e d:Bool):(fO H b s e d).length=H.length:=by simp[fO]
theorem O3(h:iq H)(s:List UInt8)(e d:Bool):iq (fO H b s e d):=by intro n a;rw[Df] at a;unfold fO;rw[Ep,h n a];simp[Ly,ay.cl,aZ,V.cl]
def vl.set(h:vl H b s e d)(s':List UInt8)(e' d':Bool):vl (fO H b s' e' d') b s' e' d':=⟨by rw[fO,aaG h.lb],O3 h.shut _ _ _⟩
def zp2:fO (fO H b s e d) b s' e' d'=fO H b s' e' d':=by simp[fO]
def Tq(h:b<H.length)(R:ae):fO (H++R) b s e d=fO H b s e d++R:=by rw[fO,fO,abB _ _ h]
def iq.ZZ(h:iq H){R:ae}(b:∀m,H.length+R.length<=m->R.map (aaw (ay.cl m))=R):iq (H++R):=by intro m a;rw[aaU] at a;rw[aap,h m an,b m a]
def zzP(h:iq H)(S:List UInt8)(i:Nat):ak (H.length+1) (H++[some (.dF S i)])=H++[some (.dF S i)]:=by have:=(h.app (r:=[some (.dF S i)]) (λn=>by simp[ay.cl])).self;simpa using this
end
open Go Go.RowKit
variable {G:aL}
def gX(ws:List (List UInt8))(l:List UInt8):List UInt8:=ws.headD l
def ba(ws:List (List UInt8)):List (List UInt8):=ws.tail
def eR(l:List UInt8)(ws:List (List UInt8)):List UInt8:=if ws=[] then l else aP ws
def bp(ws:List (List UInt8)):Bool:=decide (ws=[])
section
variable {H:ae} {b:Nat} {l S:List UInt8} {ws:List (List UInt8)} {e d:Bool}
def vl.I3{s:List UInt8}{e:Bool}(h:vl H b s e d){R:ae}(a:∀n,R.map (aaw (ay.cl n))=R):vl (H++R) b s e d :=
 ⟨by rw[aah h.lb];exact h.hb,h.shut.app a⟩
def Z0[dQ G](h:vl H b S e d)(x:Int):SF G 464 [.ptr b 0,.int .i64 x] H (.bc []) (fO H b S e (d||x !=0)):=by
 refine kr dQ.agn (aaa rfl) ?_;have c:=h.cU;have a:=(h.set S e (d||x !=0)).shut.self;simp only[fO,Ly,abt] at a |-
 cases d<;>simp[c]<;>simpa using a
def zwc[dQ G](h:vl H b S false d)(P:S.length<4611686018427387904) :
  SF G 463 [.ptr b 0] H (.str (fX 32 S)) (fO H b (if(fX 32 S).length<S.length then iF 32 S else S) (!decide ((fX 32 S).length<S.length)) d):=by
 refine kr dQ.agm (aaa rfl) ?_;obtain⟨q,g,t,k,_⟩:=EE 32 S;obtain⟨w,u⟩:=bb (fX 32 S);rw[<-u] at q g t k |-
 have C:iF 32 S=S.drop (w.length+1):=by rw[u];rfl
 rw[C];have v:=h.cU;have c:=h.lb
 have l:∀x,(H++[x])[b]?=some (some (.cells [.str S,.bool false,.bool d])):=λx=>by rw[aah c];exact v
 have o:∀x:Option ay,(H++[x])[H.length]?=some x:=λx=>by rw[aaj an];simp
 have z:∀x y,(H++[x]).set b y=H.set b y++[x]:=λx y=>by rw[abB _ _ c]
 have D:∀x y,(H.set b y++[x])[b]?=some y:=λx y=>by rw[aah (by simpa using c),aaG c]
 have A:=zzP h.shut S;have B:(b<H.length+1)=True:=ah7;have f:=λs e r=>(O3 (b:=b) h.shut s e d).back r;simp only[Df] at f;simp only[fO,Ly] at f |-;simp[v,l];refine u5 (S:=Nat) (λi=>S.length+1-i) (λi=>[(0,.ptr b 0),(17,.ptr H.length 0)]) (λi=>H++[some (.dF S i)]) (λi=>i<=w.length) 0 ?_ ?_
 .simp[av,A,B]
 intro i hi
 by_cases E:i<w.length
 .obtain⟨r,n,p,F,Q,R⟩:=ZQ (m:=32) ah9 E q (λj _ I=>t j I) k
  have J:i<S.length:=an
  have a:((r:Int)==32)=false:=I0 (b:=32) F;simp[J,p,a,o,av];exact⟨i+n,by simp only;omega,an,by simp[av,B],by simp[A]⟩
 .have hi:i=w.length:=an
  subst hi
  by_cases a:w.length<S.length
  .have p:=IY (k a) ah9;have K:((w.length:Int)<=(S.length:Int))=True:=ah7
   have L:aC .i64 w.length 1=(w.length+1:Nat):=qq
   have M:(S.drop (w.length+1)).take (S.length-(w.length+1))=S.drop (w.length+1):=aai ir;have N:(((w.length+1:Nat):Int)<=(S.length:Int))=True:=ah7;simp[a,p,K,L,M,N,g,l,o,z,f,-aab]
  .have O:w=S:=by rw[<-g];exact aai an
   simp[a,O,l,o,z,D,f]
def I4[dQ G](c:∀w∈ws,gJ w)(h:vl H b (eR l ws) (bp ws) d)(a:(aP ws).length<4611686018427387904) :
  SF G 463 [.ptr b 0] H (.str (gX ws [])) (fO H b (eR (gX ws l) (ba ws)) (bp (ba ws)) (d||bp ws)):=by
 match ws,c,h,a with
 | [],_,h,_ =>
  refine kr dQ.agm (aaa rfl) ?_;have e:=h.cU;have f:=(h.set (eR l []) true true).shut.self;simp only[fO,Ly,abt,bp,eR,gX,ba,if_true,List.headD_nil,List.tail_nil,decide_true,Bool.or_true] at e f |-
  simp[e,f]
 | [w],c,h,a =>
  have:=zwc (G:=G) (S:=w) h a;rw[show fX 32 w=w from zrH (c w ir)] at this
  simpa[bp,eR,gX,ba] using this
 | w::v::r,c,h,a =>
  have g:eR l (w::v::r)=w++32::aP (v::r):=rfl;have i:aP (w::v::r)=w++32::aP (v::r):=rfl;rw[g] at h;rw[i] at a;have:=zwc (G:=G) h a;have t:=I1 (r:=aP (v::r)) (c w ir);rw[t.1,t.2,if_pos ir,decide_eq_true ir] at this;simpa[bp,eR,gX,ba] using this
def Z1(w:List UInt8)(ws:List (List UInt8)):(aP ws).length<=(aP (w::ws)).length:=by
 cases ws with
 | nil=>simp[aP]
 | cons v r=>rw[BR w ir];simp;omega
def BV(ws:List (List UInt8)):(aP (ba ws)).length<=(aP ws).length:=by
 cases ws with
 | nil=>simp[aP,ba]
 | cons v r=>exact Z1 v r
def EF(ws:List (List UInt8)):(gX ws []).length<=(aP ws).length:=by
 match ws with
 | []=>simp[aP,gX]
 | [w]=>simp[aP,gX]
 | w::v::r=>simp[aP,gX]
def xQ(ws:List (List UInt8)):List UInt8:=gX ws []++32::(gX (ba ws) []++32::(gX (ba (ba ws)) []++32::gX (ba (ba (ba ws))) []))
def CU(l:List UInt8)(ws:List (List UInt8)):List UInt8:=gX (ba (ba (ba ws))) (gX (ba (ba ws)) (gX (ba ws) (gX ws l)))
def zuM[cT G][di G][gg G][dQ G](u:∀w∈ws,gJ w)(h:vl H b (eR l ws) (bp ws) d)(S:(aP ws).length<1152921504606846976) :
  SF G 465 [.ptr b 0] H (.agg ((d_ (xQ ws)).getD ⟨0,0,0,0⟩).cs) (fO H b (eR (CU l ws) (ba (ba (ba (ba ws))))) (bp (ba (ba (ba (ba ws))))) (d||bp (ba (ba (ba ws)))||(d_ (xQ ws)).isNone)):=by
 refine kr dQ.ago (aaa rfl) ?_;have T:=BV ws;have U:=BV (ba ws);have W:=BV (ba (ba ws));have X:=EF ws;have Y:=EF (ba ws);have k3:=EF (ba (ba ws));have k4:=EF (ba (ba (ba ws)));have n1:∀w∈(ba ws),gJ w:=λw h=>u w (abi h);have v:∀w∈(ba (ba ws)),gJ w:=λw h=>n1 w (abi h);have L:∀w∈(ba (ba (ba ws))),gJ w:=λw h=>v w (abi h)
 have M:(xQ ws).length<4611686018427387904:=by simp only[xQ,aaU,aa2];omega
 have m:=zuL (G:=G) (xQ ws) M;obtain⟨Z,y⟩:∃Z:ae,Z=[some (.cells [.int .i64 0,.int .i64 0,.int .u64 0,.int .u64 0])]:=⟨_,rfl⟩
 have a:∀n,Z.map (aaw (ay.cl n))=Z:=λn=>by rw[y];simp[ay.cl,aZ,V.cl]
 have z:=h.I3 (R:=Z) a;have q1:=I4 (G:=G) u z an;have A:=z.set (eR (gX ws l) (ba ws)) (bp (ba ws)) (d||bp ws);have p:=I4 (G:=G) n1 A an;have B:=A.set (eR (gX (ba ws) (gX ws l)) (ba (ba ws))) (bp (ba (ba ws))) (d||bp ws||bp (ba ws));have q:=I4 (G:=G) v B an;have C:=B.set (eR (gX (ba (ba ws)) (gX (ba ws) (gX ws l))) (ba (ba (ba ws)))) (bp (ba (ba (ba ws)))) (d||bp ws||bp (ba ws)||bp (ba (ba ws)))
 have f:=I4 (G:=G) L C an;obtain⟨g,i⟩:=bb ((d||bp ws||bp (ba ws)||bp (ba (ba ws))||bp (ba (ba (ba ws)))))
 have D:g=(d||bp (ba (ba (ba ws)))):=by
  rw[i]
  match ws with
  | []=>simp[bp,ba]
  | [_]=>simp[bp,ba]
  | [_,_]=>simp[bp,ba]
  | _::_::_::r=>simp[bp,ba]
 rw[<-i] at f;have h4:=C.set (eR (CU l ws) (ba (ba (ba (ba ws))))) (bp (ba (ba (ba (ba ws))))) g;obtain⟨c,E⟩:=bb ((d_ (xQ ws)).getD ⟨0,0,0,0⟩);have N:=(h.set (eR (CU l ws) (ba (ba (ba (ba ws))))) (bp (ba (ba (ba (ba ws))))) g).I3 (R:=Z++[some (.cells c.cs)]) (λn=>by rw[aap,a];simp[ay.cl,aZ,V.cl,Cd.cs]);have F:=h.lb
 have I:∀(s:List UInt8) (e d:Bool) (s':List UInt8) (e' d':Bool) (R:ae),fO (fO H b s e d++R) b s' e' d'=fO H b s' e' d'++R:=λs e d s' e' d' R=>by rw[Tq (by simpa using F),zp2]
 simp only[Tq F,I] at q1 p q f;have t:=Z0 (G:=G) N (if d_ (xQ ws)=none then 2 else 0)
 have O:((if d_ (xQ ws)=none then(2:Int) else 0) !=0)=(d_ (xQ ws)).isNone:=by cases d_ (xQ ws)<;>rfl
 rw[I,O,D] at t;rw[D] at f ;have J:=λs e d' r=>(O3 (b:=b) h.shut s e d').back r;simp only[Df] at J;subst y
 have P:∀(s:List UInt8) (e d:Bool) (r:ae) (k:Nat),(fO H b s e d++r)[H.length+k]?=r[k]?:=λs e d r k=>by rw[aaj ir,Df];congr 1;omega
 have zZ:∀(s:List UInt8) (e d:Bool) (r:ae),(fO H b s e d++r)[H.length]?=r[0]?:=λs e d r=>P s e d r 0
 have K:∀(s:List UInt8) (e d:Bool) (r:ae) (k:Nat) (x:Option ay),(fO H b s e d++r).set (H.length+k) x=fO H b s e d++r.set k x:=λs e d r k x=>by rw[aau _ _ ir,Df];congr 1;congr 1;omega
 have Q:∀(s:List UInt8) (e d:Bool) (r:ae) (x:Option ay),(fO H b s e d++r).set H.length x=fO H b s e d++r.set 0 x:=λs e d r x=>K s e d r 0 x;have j:∀n:Nat,n<5764607523034234880->(n<=9223372036854775807)=True:=λn h=>eq_true an;generalize d_ (xQ ws)=o at *;simp only[v9,<-E,xQ] at m;rw[<-E];simp only[Cd.cs,aav,abf] at m q1 p q f t |-;generalize gX ws []=w1 at *;generalize gX (ba ws) []=w2 at *
 generalize gX (ba (ba ws)) []=w3 at *;generalize gX (ba (ba (ba ws))) []=w4 at *;simp;refine cP q1 ?_;simp(disch:=first|omega|(simp;omega))[j];refine cP p ?_;simp(disch:=first|omega|(simp;omega))[j];refine cP q ?_;simp(disch:=first|omega|(simp;omega))[j];refine cP f ?_;simp(disch:=first|omega|(simp;omega))[j];refine aw m ?_;simp[K];refine cP t ?_;simp[Q,J]
end
open Go Go.RowKit
variable {G:aL}
def zt1{rs:List Nat}{f:Nat}{args:List V}{r:V}{H H':ae}{base:Nat}{d:Option Nat}{os:List aF}{K:List Kt}{e:Env}{Q:Ex->Env->ae->Prop}(h:SF G f args H r H')(b:Kn e rs H H')
  (c:WO G base os K (e.put d r) H' Q):zFo G rs f args base d os K e H Q:=by
 obtain⟨g,H1,i,j,a⟩:=h;exact⟨g,H1,i,by rw[a];exact b,by rw[j,a];exact c⟩
def Tr:∀{cs a:List Cd} {k:Nat} {ws:List (List UInt8)},(∀c∈cs,c.df)->(∀c∈a,c.df)->jc k cs++ws=jc k a->∃t,a=cs++t/\ws=jc (k+cs.length) t
 | [],a,k,ws,_,_,h=>⟨a,rfl,h⟩
 | c::cs,[],k,ws,_,_,h=>by simp[jc] at h
 | c::cs,c'::a,k,ws,d,f,h=>by
  have g:∀c:Cd,(k9 c).length=4:=λ_=>rfl;simp only[jc,aav,abW.injEq,true_and,abm] at h;have i:=List.append_inj h (by rw[g,g]);have e:=zrI (d c ir) (f c' ir) i.1;subst e;obtain⟨t,rfl,j⟩:=Tr (λx b=>d x (by simp[b])) (λx b=>f x (by simp[b])) i.2;exact⟨t,rfl,by rw[j,aa2,show k+1+cs.length=k+(cs.length+1) by omega]⟩
def zrN:∀(a b:List Cd) (k:Nat),jc k (a++b)=jc k a++jc (k+a.length) b
 | [],b,k=>rfl
 | c::a,b,k=>by simp[jc,zrN a b (k+1),show k+1+a.length=k+(a.length+1) by omega]
def zt2{ws:List (List UInt8)}(f:∀w∈ws,gJ w){c:Cd}(g:c.df):(bp (ba (ba (ba ws)))=false/\d_ (xQ ws)=some c)↔∃r,ws=k9 c++r:=by
 constructor
 .rintro⟨i,j⟩
  match ws,f,i,j with
  | [],_,h,_=>simp[bp,ba] at h
  | [_],_,h,_=>simp[bp,ba] at h
  | [_,_],_,h,_=>simp[bp,ba] at h
  | [_,_,_],_,h,_=>simp[bp,ba] at h
  | a::b::x::d::r,f,_,h =>
   have e:aP (k9 c)=aP [a,b,x,d]:=(OX h).2
   have:=Ti (by simp[k9]) ir (Tj g) (λw h=>f w (by
    simp only[aa7,adr,or_false] at h |-
    rcases h with rfl|rfl|rfl|rfl<;>simp)) e
   exact⟨r,by rw[this];rfl⟩
 .rintro⟨r,rfl⟩;exact⟨by simp[bp,ba,k9],ZK g⟩
def Z2:∀l:List (List UInt8),l.length<=(aP l).length+1
 | []=>by simp
 | [w]=>by simp
 | w::v::r=>by
  have:=Z2 (v::r);rw[BR w ir];simp at this |-;omega
def zIk{f b:Nat}{body:bg}{a:List jw}{args:List V}{H:ae}{R:V->ae->Prop}(d:G f=some ⟨b,body,a⟩)(e:args.length<=b)
  (h:W G body [] (il (qz 0 args)) H (QX a λg H1=>R (g.cl H.length) (ak H.length H1))):∃r H',SF G f args H r H'/\R r H':=by
 obtain⟨x,l,H1,c,i,vs,j,k⟩:=h;rw[<-NU] at c;exact⟨_,_,⟨_,_,.fn d e c i j,rfl,rfl⟩,k⟩
def zD2(ws:List (List UInt8)):ba (ba (ba (ba ws)))=ws.drop 4:=by
 match ws with
 | []=>rfl
 | [_]=>rfl
 | [_,_]=>rfl
 | [_,_,_]=>rfl
 | _::_::_::_::r=>rfl
section
variable {H:ae} {b:Nat} {l:List UInt8} {ws:List (List UInt8)} {d:Bool}
def EG(o:Option Nat):((if o=none then(2:Int) else 0) !=0)=o.isNone:=by cases o<;>rfl
def zD3[cT G][bW G][di G][c_ G][gg G][dQ G](Y:∀w∈ws,gJ w)
  (h:vl H b (eR l ws) (bp ws) false) (hl:(aP ws).length<1048576) :
  ∃s e hg x,SF G 466 [.ptr b 0] H (.agg x.cs) (fO H b s e hg)/\(hg=false->jr x=true/\x.O2/\qX x=[111,110]::ws)/\(hg=true->∀y,jr y=true->y.O2->qX y≠[111,110]::ws):=by
 obtain⟨M,hM⟩:=bb (gX ws []);obtain⟨C,hC⟩:=bb (gX (ba ws) []);obtain⟨A,hA⟩:=bb (gX (ba (ba ws)) []);obtain⟨o,I5⟩:=bb (ba (ba (ba ws)));obtain⟨a,ha⟩:=bb ((pv qj M).getD 0);obtain⟨n,N⟩:=bb ((pv (pq a) C).getD 0);obtain⟨v,hv⟩:=bb ((eQ A).getD 0);have t1:=BV ws;have t2:=BV (ba ws);have t3:=BV (ba (ba ws));have k1:=EF ws;have k2:=EF (ba ws)
 have k3:=EF (ba (ba ws));have n1:∀w∈ba ws,gJ w:=λw h=>Y w (abi h);have n2:∀w∈ba (ba ws),gJ w:=λw h=>n1 w (abi h);have n3:∀w∈o,gJ w:=λw h=>n2 w (abi (by rw[I5] at h;exact h));obtain⟨d1,J9⟩:=bb ((bp ws||(pv qj M).isNone));obtain⟨d2,Lv⟩:=bb ((d1||bp (ba ws)||(pv (pq a) C).isNone));obtain⟨B,Z3⟩:=bb ((d2||bp (ba (ba ws))||(eQ A).isNone));have pM:=zrJ (G:=G) M (by rw[hM];omega)
 have pC:=zv9 (G:=G) a C (by rw[hC];omega);have pA:=zmy (G:=G) A (by rw[hA];omega);simp only[j8] at pM pC pA;rw[<-ha] at pM;rw[<-N] at pC;rw[<-hv] at pA;have lb:=h.lb;have O:=h.shut
 have ra:∀(s:List UInt8) (e d:Bool) (s':List UInt8) (e' d':Bool) (R:ae),fO (fO H b s e d++R) b s' e' d'=fO H b s' e' d'++R:=λs e d s' e' d' R=>by rw[Tq (by simpa using lb),zp2]
 have O4:∀(R:ae),(∀n,H.length+R.length<=n->R.map (aaw (ay.cl n))=R)->∀(s:List UInt8) (e d:Bool),vl (fO H b s e d++R) b s e d:=λR F s e d =>
  ⟨by rw[aah (by simpa using lb)];exact(h.set _ _ _).hb,(O3 O _ _ _).ZZ (R:=R) (by rw[Df];exact F)⟩
 have E:∀(R:ae),(∀n,H.length+R.length<=n->R.map (aaw (ay.cl n))=R)->∀(ws:List (List UInt8)),(∀w∈ws,gJ w)->(aP ws).length<1048576->∀l d,
   SF G 463 [.ptr b 0] (fO H b (eR l ws) (bp ws) d++R) (.str (gX ws [])) (fO H b (eR (gX ws l) (ba ws)) (bp (ba ws)) (d||bp ws)++R):=by
  intro R F ws Y hq l d;have:=I4 (G:=G) Y (O4 R F (eR l ws) (bp ws) d) an;rwa[ra] at this
 have I6:∀(R:ae),(∀n,H.length+R.length<=n->R.map (aaw (ay.cl n))=R)->∀(s:List UInt8) (e d:Bool) (x:Int),SF G 464 [.ptr b 0,.int .i64 x] (fO H b s e d++R) (.bc []) (fO H b s e (d||x !=0)++R):=by intro R F s e d x;have:=Z0 (G:=G) (O4 R F s e d) x;rwa[ra] at this
 have b_:fO H b (eR l ws) (bp ws) false=H:=acs λi=>by
  unfold fO;rw[ab4];split
  .rename_i u;first|(rw[if_pos lb,<-u,h.hb];done)|(rw[<-u,h.hb];done)
  .rfl
 have gk:∀(s:List UInt8) (e d:Bool) (R:ae) (k:Nat),(fO H b s e d++R)[H.length+k]?=R[k]?:=λs e d R k=>by rw[aaj ir,Df];congr 1;omega
 have zZ:∀(s:List UInt8) (e d:Bool) (R:ae),(fO H b s e d++R)[H.length]?=R[0]?:=λs e d R=>gk s e d R 0
 have sk:∀(s:List UInt8) (e d:Bool) (R:ae) (k:Nat) (x:Option ay),(fO H b s e d++R).set (H.length+k) x=fO H b s e d++R.set k x:=λs e d R k x=>by rw[aau _ _ ir,Df];congr 1;congr 1;omega
 have BW:∀(s:List UInt8) (e d:Bool) (R:ae) (x:Option ay),(fO H b s e d++R).set H.length x=fO H b s e d++R.set 0 x:=λs e d R x=>sk s e d R 0 x
 have gb:∀(s:List UInt8) (e d:Bool) (R:ae),(fO H b s e d++R)[b]?=some (some (.cells [.str s,.bool e,.bool d])):=λs e d R=>by rw[aah (by simpa using lb)];exact(h.set s e d).hb
 have sb:∀(s:List UInt8) (e d:Bool) (s':List UInt8) (e' d':Bool) (R:ae),(fO H b s e d++R).set b (some (.cells [.str s',.bool e',.bool d']))=fO H b s' e' d'++R:=λs e d s' e' d' R=>ra s e d s' e' d' R
 have bk:∀(s:List UInt8) (e d:Bool) (R:ae),ak H.length (fO H b s e d++R)=fO H b s e d:=λs e d R=>by have:=(O3 (b:=b) O s e d).back R;rwa[Df] at this
 have tr:∀(s:List UInt8) (e d:Bool) (R:ae) (n:Nat),n=H.length+R.length->(∀n,H.length+R.length<=n->R.map (aaw (ay.cl n))=R)->ak n (fO H b s e d++R)=fO H b s e d++R:=λs e d R n N F=>by
  subst N;have:=(O4 R F s e d).shut.self;simpa using this
 obtain⟨C0,hj⟩:∃C0:Option ay,C0=some (.cells [.int .u32 0,.int .u32 0,.vs [] .full,.int .u32 0]):=⟨_,rfl⟩
 have R0:∀(a n v:Int) (m:Nat),([C0,some (.cells [.int .u32 a,.int .u32 n,.vs [] .full,.int .u32 v])]:ae).map (aaw (ay.cl m))=[C0,some (.cells [.int .u32 a,.int .u32 n,.vs [] .full,.int .u32 v])]:=λa n v m=>by
  subst hj;simp[ay.cl,aZ,V.cl,Tk.cl]
 have q1:=E _ (λm _=>R0 0 0 0 m) ws Y hl l false;rw[b_,<-hM] at q1;have m1:=I6 _ (λm _=>R0 a 0 0 m) (eR (gX ws l) (ba ws)) (bp (ba ws)) (false||bp ws) (if pv qj M=none then 2 else 0);rw[EG,abT,<-J9] at m1;rw[abT] at q1;have q2:=E _ (λm _=>R0 a 0 0 m) (ba ws) n1 an (gX ws l) d1;rw[<-hC] at q2;have m2:=I6 _ (λm _=>R0 a n 0 m) (eR (gX (ba ws) (gX ws l)) (ba (ba ws))) (bp (ba (ba ws))) (d1||bp (ba ws)) (if pv (pq a) C=none then 2 else 0)
 rw[EG,<-Lv] at m2;have q3:=E _ (λm _=>R0 a n 0 m) (ba (ba ws)) n2 an (gX (ba ws) (gX ws l)) d2;rw[<-hA,<-I5] at q3;obtain⟨l3,EH⟩:=bb (gX (ba (ba ws)) (gX (ba ws) (gX ws l)));rw[<-EH] at q3;have m3:=I6 _ (λm _=>R0 a n v m) (eR l3 o) (bp o) (d2||bp (ba (ba ws))) (if eQ A=none then 2 else 0);rw[EG,<-Z3] at m3
 have hh:∀cs:List Cd,(∀c∈cs,c.df)->o=jc 0 cs->B=false->cs.length<=4->jr ⟨a,n,cs,v⟩=true/\(⟨a,n,cs,v⟩:Ru).O2/\qX ⟨a,n,cs,v⟩=[111,110]::ws:=by
  intro cs dK hu hd Tt;rw[Z3,Lv,J9] at hd;simp only[ace] at hd;obtain⟨⟨⟨⟨⟨g1,P⟩,Q⟩,g4⟩,g5⟩,g6⟩:=hd;obtain⟨a',oI⟩:=aaJ.1 (by rw[<-abQ,P];rfl);obtain⟨n',yI⟩:=aaJ.1 (by rw[<-abQ,g4];rfl);obtain⟨v',Dg⟩:=aaJ.1 (by rw[<-abQ,g6];rfl);rw[oI] at ha;rw[yI] at N;rw[Dg] at hv;simp only[abp] at ha N hv;subst ha;subst N;subst hv;have e1:=Th oI;have e2:=Th yI;have e3:=BT Dg;have T:=Lu e3.1;refine⟨?_,⟨λc I=>(dK c I).2,e1.1,e2.1,T⟩,?_⟩
  .simp only[jr,aaI,decide_eq_true_eq,ab9];exact⟨⟨λc I=>(dK c I).1,e3.1⟩,Tt⟩
  .match ws,g1,Q,g5 with
   | [],g,_,_=>simp[bp] at g
   | [_],_,g,_=>simp[bp,ba] at g
   | [_,_],_,_,g=>simp[bp,ba] at g
   | x::y::z::r,_,_,_ =>
    simp only[gX,ba,acI,acT] at hM hC hA I5;simp only[qX,aav,abf,e1.2,e2.2,e3.2,<-hu];rw[hM,hC,hA,I5]
 have O5:∀y:Ru,jr y=true->y.O2->qX y=[111,110]::ws->B=false/\o=jc 0 y.conds/\(∀c∈y.conds,c.df)/\y.conds.length<=4:=by
  intro y hm ho u;simp only[jr,aaI,decide_eq_true_eq,ab9] at hm;obtain⟨⟨y1,y2⟩,y3⟩:=hm;obtain⟨o1,o2,o3,o4⟩:=ho;simp only[qX,aav,abf,abW.injEq,true_and] at u;subst u;simp only[gX,ba,acI,acT] at hM hC hA I5;have e1:=Lt Ey o2;rw[<-hM] at e1;rw[e1] at ha;simp only[abp] at ha;have e2:=Lt (Ez y.aA) o3;rw[<-hC,<-ha] at e2;have e3:=GI y2;rw[<-hA] at e3;refine⟨?_,I5,λc I=>⟨y1 c I,o1 c I⟩,y3⟩;rw[Z3,Lv,J9,e1,e2,e3]
  simp[bp,ba]
 suffices hs:∃s e D cs,SF G 466 [.ptr b 0] H (.agg (⟨a,n,cs,v⟩:Ru).cs) (fO H b s e (D||decide (4<cs.length)))/\(D=false->B=false/\(∀c∈cs,c.df)/\o=jc 0 cs)/\(D=true->B=true\/∀p,(∀c∈p,c.df)->o≠jc 0 p) by
  obtain⟨s,e,D,cs,h1,h2,h3⟩:=hs;refine⟨s,e,_,_,h1,?_,?_⟩
  .intro T;simp only[ace,decide_eq_false_iff_not] at T;obtain⟨g1,P,Q⟩:=h2 T.1;exact hh cs P Q g1 an
  .intro T y hm ho u;obtain⟨f1,f2,f3,f4⟩:=O5 y hm ho u
   cases FW:D with
   | true =>
    rcases h3 FW with h|h
    .rw[f1] at h;cases h
    .exact h _ f3 f2
   | false =>
    obtain⟨g1,P,Q⟩:=h2 FW;rw[FW] at T;simp only[abT,decide_eq_true_eq] at T;obtain⟨t,ht,sX⟩:=Tr (ws:=[]) (k:=0) f3 P (by rw[abu,<-f2,Q])
    have:t=[]:=by
     cases t with
     | nil=>rfl
     | cons c t=>simp[jc] at sX
    subst this;rw[ht,abu] at T;omega
 obtain⟨R,F⟩:∃R:V->ae->Prop,∀r H',R r H'↔∃s e D cs,r=.agg (⟨a,n,cs,v⟩:Ru).cs/\H'=fO H b s e (D||decide (4<cs.length))/\(D=false->B=false/\(∀c∈cs,c.df)/\o=jc 0 cs)/\(D=true->B=true\/∀p,(∀c∈p,c.df)->o≠jc 0 p):=⟨_,λ_ _=>Iff.rfl⟩
 suffices hs:∃r H',SF G 466 [.ptr b 0] H r H'/\R r H' by
  obtain⟨r,H',h1,h2⟩:=hs;obtain⟨s,e,D,cs,rfl,rfl,h3⟩:=(F _ _).1 h2;exact⟨s,e,D,cs,h1,h3⟩
 refine zIk dQ.agp (aaa rfl) ?_;subst hj;simp;refine cP q1 ?_;simp;refine aw pM ?_;simp[sk];refine cP m1 ?_;simp;refine zt1 q2 ?_ ?_
 .intro k hk id bM;simp at hk;subst hk;simp at bM;subst bM;rw[gk,gk]
 simp;refine aw pC ?_;simp[sk];refine cP m2 ?_;simp;refine cP q3 ?_;simp;refine aw pA ?_;simp[sk];refine cP m3 ?_;simp[sk];obtain⟨Z,K⟩:∃Z:List Cd->ae,∀cs,Z cs=[some (.cells [.int .u32 0,.int .u32 0,.vs [] .full,.int .u32 0]),some (.cells [.int .u32 a,.int .u32 n,.vs (CL cs) (.own (H.length+2)),.int .u32 v]),some (.zone cs.length)]:=⟨_,λ_=>rfl⟩
 have Z4:∀i,(Z i).length=3:=λi=>by rw[K];rfl
 have Tu:∀i n,H.length+(Z i).length<=n->(Z i).map (aaw (ay.cl n))=Z i:=λi n N=>by
  rw[Z4] at N;rw[K];simp[ay.cl,aZ,V.cl,Tk.cl,show H.length+2<n by omega]
 have tz:∀s e d i,ak (H.length+3) (fO H b s e d++Z i)=fO H b s e d++Z i:=λs e d i=>tr s e d (Z i) _ (by rw[Z4]) (Tu i);have Tv:(b<H.length+3)=True:=ah7;have wl:∀l:List (List UInt8),l.length<=(aP l).length+1:=Z2;have hD:=wl o
 have hy:(aP o).length<1048576:=by rw[I5];omega
 refine u5 (S:=List UInt8×List (List UInt8)×Bool×List Cd) (λq=>if q.2.2.1 then 0 else q.2.1.length) (λq=>[(0,.ptr b 0),(2,.ptr H.length 0),(3,.ptr (H.length+1) 0),(5,.str (xP q.2.2.2.length))])
  (λq=>fO H b (eR q.1 q.2.1) (bp q.2.1) q.2.2.1++Z q.2.2.2)
  (λq=>(∀w∈q.2.1,gJ w)/\(aP q.2.1).length<1048576/\q.2.2.2.length+q.2.1.length<=1048577/\(q.2.2.1=false->B=false/\(∀c∈q.2.2.2,c.df)/\o=jc 0 q.2.2.2++q.2.1)/\(q.2.2.1=true->B=true\/∀p,(∀c∈p,c.df)->o≠jc 0 p)) (l3,o,B,[]) ?_ ?_
 .have t0:=tz (eR l3 o) (bp o) B [];rw[K] at t0;simp only[show CL []=[] from rfl,abV] at t0;refine⟨⟨n3,hy,by simp;omega,λh=>⟨h,ir,rfl⟩,λh=>.inl h⟩,?_,?_⟩
  .simp[av,xP,Tv]
  .simp[t0,K,Tv,show CL []=[] from rfl]
 rintro⟨l,ws,d,cs⟩ ⟨p1,p2,p3,p4,p5⟩;simp only at p1 p2 p3 p4 p5 |-
 have j:(d||bp ws)=true->∃s e D p,V.agg (⟨a,n,cs,v⟩:Ru).cs=.agg (⟨a,n,p,v⟩:Ru).cs/\fO H b (eR l ws) (bp ws) (d||decide (4<cs.length))=fO H b s e (D||decide (4<p.length))/\(D=false->B=false/\(∀c∈p,c.df)/\o=jc 0 p)/\(D=true->B=true\/∀p,(∀c∈p,c.df)->o≠jc 0 p):=by
  intro u;refine⟨_,_,d,cs,rfl,rfl,λhd=>?_,p5⟩;rw[hd,abT] at u
  have:ws=[]:=by simpa[bp] using u
  have:=p4 hd;subst ws;rw[abu] at this;exact this
 have hF:(H.length+2<H.length)=False:=ah8
 cases hd:d with
 | true =>
  rw[hd] at j;have j:=(F _ _).2 (j rfl);simp only[Bool.true_or] at j;simp only[K]
  cases u:bp ws<;>rw[u] at j<;>simp[BW,gb,sb,bk,hF,Tk.cl]<;>simpa[Ru.cs] using j
 | false =>
  subst hd
  cases u:bp ws with
  | true =>
   have j:=(F _ _).2 (j (by rw[u];rfl));rw[u] at j
   by_cases h4:4<cs.length
   .have Lz:(4<(cs.length:Int))=True:=ah7;simp only[K];simp[BW,gb,sb,bk,hF,Tk.cl,Lz];simpa[Ru.cs,h4] using j
   .have Lz:(4<(cs.length:Int))=False:=ah8;simp only[K];simp[BW,gb,sb,bk,hF,Tk.cl,Lz]
    simpa[Ru.cs,h4] using j
  | false =>
   have az:ws≠[]:=by intro h;rw[h] at u;simp[bp] at u
   obtain⟨w,Y⟩:=bb (gX ws []);obtain⟨U,hU⟩:=bb (ba ws)
   have v_:ws=w::U:=by
    cases ws with
    | nil=>exact absurd rfl az
    | cons x y=>rw[Y,hU];rfl
   have nU:∀w∈U,gJ w:=λx h=>p1 x (by rw[v_];simp[h])
   have lU:(aP U).length<=(aP ws).length:=by rw[hU];exact BV ws
   have q:=E (Z cs) (Tu cs) ws p1 p2 l false;rw[<-Y,<-hU,u,abT] at q;obtain⟨l1,mC⟩:=bb (gX ws l);rw[<-mC] at q;obtain⟨J,hJ⟩:=bb (xP cs.length);obtain⟨d',yz⟩:=bb (!(w==J))
   have F5:=O4 (Z cs++[none]) (λm hm=>by
    rw[aaU] at hm;rw[aap,Tu cs m an]
    rfl) (eR l1 U) (bp U) d'
   have qc:=zuM (G:=G) nU F5 an;obtain⟨c,I⟩:=bb ((d_ (xQ U)).getD ⟨0,0,0,0⟩);obtain⟨l2,fA⟩:=bb (CU l1 U);obtain⟨X,hX⟩:=bb (ba (ba (ba (ba U))));obtain⟨L,I7⟩:=bb ((d'||bp (ba (ba (ba U)))||(d_ (xQ U)).isNone));rw[ra,<-I,<-fA,<-hX,<-I7] at qc
   have Z5:X=U.drop 4:=by rw[hX,zD2]
   have H9:xP (cs.length+1)=[97,110,100]:=by simp[xP]
   have ju:((cs.length+1)*32<=140737488355328)=True:=eq_true (by rw[v_] at p3;simp at p3;omega);have GJ:(∀f∈CL cs,f.length=4)=True:=eq_true (by intro f hf;simp only[CL,aan] at hf;obtain⟨y,_,rfl⟩:=hf;rfl)
   have eK:CL cs++[c.cs]=CL (cs++[c]):=by simp[CL]
   have Z6:ak (H.length+3) (fO H b (eR l2 X) (bp X) L++(Z (cs++[c])++[none]))=fO H b (eR l2 X) (bp X) L++Z (cs++[c]):=by have:=(O4 (Z (cs++[c])) (Tu _) (eR l2 X) (bp X) L).shut.back [none];rw[aaU,Df,Z4] at this;rw[<-abm];exact this
   have lX:(aP X).length<=(aP U).length:=by rw[hX];have:=BV U;have:=BV (ba U);have:=BV (ba (ba U));have:=BV (ba (ba (ba U)));omega
   have yk:(if L=true then 0 else X.length)<(if false=true then 0 else ws.length)/\(∀w∈X,gJ w)/\(aP X).length<1048576/\(cs++[c]).length+X.length<=1048577/\(L=false->B=false/\(∀x∈cs++[c],x.df)/\o=jc 0 (cs++[c])++X)/\(L=true->B=true\/∀p,(∀c∈p,c.df)->o≠jc 0 p):=by
    obtain⟨g1,P,Q⟩:=p4 rfl
    have fD:X.length<=U.length:=by rw[Z5];simp
    have CX:ws.length=U.length+1:=by rw[v_];rfl
    refine⟨?_,λx W=>nU x (abj (by rw[Z5] at W;exact W)),an,by simp;omega,λh=>?_,λh=>.inr λp lg pK=>?_⟩
    .split<;>simp<;>omega
    .rw[I7,yz] at h;simp only[ace,Bool.not_eq_false',beq_iff_eq] at h;obtain⟨⟨h1,h2⟩,h3⟩:=h;obtain⟨c',iK⟩:=aaJ.1 (by rw[<-abQ,h3];rfl);rw[iK] at I;simp only[abp] at I;subst I;have Tw:=(OX iK).1;obtain⟨r,hr⟩:=(zt2 nU Tw).1 ⟨h2,iK⟩
     have hz:X=r:=by rw[Z5,hr];rfl
     refine⟨g1,λx W=>?_,?_⟩
     .rcases aaq.1 W with W|W
      .exact P x W
      .rw[aaH.1 W];exact Tw
     .rw[Q,v_,hr,zrN,h1,hJ,hz];simp[jc]
    .obtain⟨t,ht,sX⟩:=Tr (k:=0) P lg (by rw[<-Q,pK])
     cases t with
     | nil=>exact az sX
     | cons c' t =>
      rw[v_,ab0] at sX;simp only[jc,aav,abW.injEq] at sX;have Tw:=lg c' (by rw[ht];simp);have:=(zt2 nU Tw).2 ⟨_,sX.2⟩;rw[I7,yz,sX.1,this.1,this.2,hJ] at h;simp at h
   rw[K] at Z6;have hB:=K;simp only[K,aav,abf] at q qc Z6 |-;simp only[Cd.cs] at qc eK;simp[gb,u];refine cP q ?_;rw[<-hJ];cases hp:(w==J)
   all_goals
    rw[hp] at yz;simp only[Bool.not_true,Bool.not_false] at yz;subst yz;simp[gb,sb,hp];refine zt1 qc ?_ ?_
    .intro k hk id bM;simp at hk;subst hk;simp at bM;subst bM;rw[gk,gk]
    simp(disch:=omega)[gk,sk,ju,eK,GJ];refine⟨(l2,X,L,cs++[c]),?_,yk.2,?_,?_⟩
    .simpa using yk.1
    .simp[av,H9,Tv]
    .simp only[hB];simpa[Tv] using Z6
end
open Go Go.RowKit
def gY(m:UInt8):List UInt8->List (List UInt8)
 | []=>[[]]
 | b::s=>if b=m then []::gY m s else match gY m s with
  | []=>[[b]]
  | w::r=>(b::w)::r
def Dh(m:UInt8):∀s,gY m s≠[]
 | []=>by simp[gY]
 | b::s=>by
  unfold gY;split
  .simp
  .split<;>simp
def Z7(m:UInt8):∀s,gY m s=fX m s::(if(fX m s).length<s.length then gY m (iF m s) else [])
 | []=>by simp[gY,fX]
 | b::s=>by
  by_cases h:b=m
  .subst h
   have:fX b (b::s)=[]:=by simp[fX]
   simp[gY,this,iF]
  .have a:fX m (b::s)=b::fX m s:=by unfold fX;rw[abw (by simpa using h)]
   have hd:iF m (b::s)=iF m s:=by unfold iF;rw[a];rfl
   have c:=Z7 m s;rw[show gY m (b::s)=(if b=m then []::gY m s else match gY m s with|[]=>[[b]]|w::r=>(b::w)::r) from rfl,if_neg h,c,a,hd];simp only[aa2,Nat.add_lt_add_iff_right]
def Tx:∀s,aP (gY 32 s)=s
 | []=>rfl
 | b::s=>by
  have a:=Tx s;have c:=Dh 32 s;unfold gY;split
  .rename_i h;rw[BR [] c,a,h];rfl
  .match d:gY 32 s,c with
   | w::r,_ =>
    rw[d] at a;simp only
    cases r with
    | nil=>simp only[aP] at a |-;rw[a]
    | cons v r=>rw[BR _ ir] at a |-;rw[<-a];rfl
def zBE(m:UInt8):∀s,∀w∈gY m s,∀b∈w,b≠m
 | [],w,a=>by simp[gY] at a;subst a;simp
 | b::s,w,a=>by
  have c:=zBE m s;unfold gY at a;split at a
  .rcases aa7.1 a with rfl|a
   .simp
   .exact c w a
  .rename_i e;split at a
   .simp at a;subst a;simpa using e
   .rename_i v r f;rw[f] at c
    rcases aa7.1 a with rfl|a
    .intro x d
     rcases aa7.1 d with rfl|d
     .exact e
     .exact c v ir x d
    .exact c w (by simp[a])
def Tz(s:List UInt8):∀w∈gY 32 s,gJ w:=zBE 32 s
def zD4{l:List (List UInt8)}(a:l≠[])(b:∀w∈l,gJ w):gY 32 (aP l)=l :=
 Ti (Dh 32 _) a (Tz _) b (Tx _)
def Ru.cO(x:Ru):Prop:=jr x=true/\x.O2
def BX{x:Ru}(h:x.cO):(∀c∈x.conds,c.df)/\x.aA<4294967296/\x.nr<4294967296/\eg x.act=true/\x.conds.length<=4:=by obtain⟨h,b,d,e,f⟩:=h;simp only[jr,aaI,decide_eq_true_eq,ab9] at h;exact⟨λc a=>⟨h.1.1 c a,b c a⟩,d,e,h.1.2,h.2⟩
def zzQ{x:Ru}(h:x.cO):∀w∈qX x,gJ w:=by obtain⟨a,b,d,e,_⟩:=BX h;exact λw f=>ZI (zzO (λc g=>a c g) b d (Lu e) w f)
def zD5(x:Ru):qX x≠[]:=by simp[qX]
def zBF{x y:Ru}(g:x.cO)(i:y.cO)(h:qX x=qX y):x=y:=by
 obtain⟨x1,x2,x3,x4,_⟩:=BX g;obtain⟨j,q,r,l,_⟩:=BX i;simp only[qX,aav,abf,abW.injEq,true_and] at h;obtain⟨m,d,n,o⟩:=h;have a:=ZE Ey an an m;rw[a] at d;have e:=ZE (Ez _) an an d;have f:=ZH x4 l n;obtain⟨t,b,p⟩:=Tr (ws:=[]) (k:=0) x1 j (by rw[abu];exact o)
 have:t=[]:=by cases t with
  | nil=>rfl
  | cons c t=>simp[jc] at p
 rw[this,abu] at b;cases x;cases y;simp only at a e f b;subst a;subst e;subst f;subst b;rfl
noncomputable def tP(w:List UInt8):Option Ru:=yV λx=>x.cO/\qX x=gY 32 w
noncomputable def oS(w:List UInt8):Option Nat:=yV λv=>eg v=true/\IT v=gY 32 w
def Z8{w:List UInt8}{x:Ru}(h:x.cO)(e:qX x=gY 32 w):tP w=some x:=Lr ⟨h,e⟩ λy a=>zBF a.1 h (a.2.trans e.symm)
def TA{w:List UInt8}{x:Ru}(h:tP w=some x):x.cO/\qX x=gY 32 w:=by unfold tP at h;have:=GG h;exact this
def Z9{w:List UInt8}{v:Nat}(h:eg v=true)(e:IT v=gY 32 w):oS w=some v:=Lr ⟨h,e⟩ λy a=>ZH a.1 h (by
 have:=a.2.trans e.symm;simp only[IT,abW.injEq,and_true,true_and] at this
 exact this)
def TB{w:List UInt8}{v:Nat}(h:oS w=some v):eg v=true/\IT v=gY 32 w:=by unfold oS at h;have:=GG h;exact this
abbrev I8:=Po×Nat×Nat
def mE:Po:=⟨[],0⟩
noncomputable def uN:Nat->List Ru->Option Nat->List (List UInt8)->I8
 | at_,rs,a,[]=>(mE,at_,0)
 | at_,rs,a,w::r =>
  if r=[] then(if w=[] then(match a with|none=>(mE,at_,5)|some v=>(⟨rs,v⟩,0,0)) else(mE,at_,2))
  else match a with
   | some _=>(mE,at_,2)
   | none=>match tP w with
    | some x=>if 64<=rs.length then(mE,at_,3) else uN (at_+w.length+1) (rs++[x]) none r
    | none=>match oS w with
     | some v=>uN (at_+w.length+1) rs (some v) r
     | none=>(mE,at_,2)
noncomputable def eo(s:List UInt8):I8:=uN 0 [] none (gY 10 s)
def Z_{w:List UInt8}{x:Ru}(h:tP w=some x):gX (gY 32 w) []=[111,110]:=by rw[<-(TA h).2];rfl
def zt3{w:List UInt8}{v:Nat}(h:oS w=some v):gX (gY 32 w) []=[100,101,102,97,117,108,116]:=by rw[<-(TB h).2];rfl
variable {G:aL}
def TC:V:=.agg [.vs [] .no,.int .u32 0]
def pT(r:I8):V:=.bc [.agg r.1.cs,.int .i64 (r.2.1:Nat),.int .i64 (r.2.2:Nat)]
def zIl(w:List UInt8):gY 32 w=gX (gY 32 w) []::ba (gY 32 w):=by
 have:=Dh 32 w
 cases h:gY 32 w with
 | nil=>exact absurd h this
 | cons a b=>rfl
def zwe[cT G][bW G][di G][c_ G][gg G][dQ G](S:List UInt8)(ha:S.length<=20000):FP G 467 [.str S] (pT (eo S)):=by
 refine bw dQ.agq (aaa rfl) ?_;have he:(20000<(S.length:Int))=False:=ah8;obtain⟨U,BY⟩:=bb (eo S);rw[<-BY];simp[he]
 refine u5 (S:=Nat×Nat×List Ru×Option Nat) (λs=>S.length-(s.1+s.2.1)) (λs=>[(0,.str S),(2,.ptr 0 0),(5,.ptr 1 0),(6,.int .i64 (s.1:Nat)),(7,.bool s.2.2.2.isSome),(20,.ptr 2 0)])
  (λs=>[some (.cells [.vs [] .full,.int .u32 0]),some (.cells [.vs (RL s.2.2.1) (.own 3),.int .u32 (s.2.2.2.getD 0:Nat)]),some (.dF S (s.1+s.2.1)),some (.zone s.2.2.1.length)])
  (λs=>s.1<=S.length/\s.2.1<=(fX 10 (S.drop s.1)).length/\s.2.2.1.length<=64/\uN s.1 s.2.2.1 s.2.2.2 (gY 10 (S.drop s.1))=U) (0,0,[],none) ?_ ?_
 .refine⟨⟨ab5 _,ab5 _,ir,by rw[BY];rfl⟩,?_,?_⟩
  .simp[av]
  .simp[ak,ay.cl,aZ,V.cl,Tk.cl,RL]
 rintro⟨o,j,rs,B⟩ ⟨p1,p2,p3,p4⟩;simp only at p1 p2 p3 p4 |-;obtain⟨w1,w2,w3,w4,w5⟩:=EE 10 (S.drop o)
 have mP:(S.drop o).length=S.length-o:=by simp
 rw[Z7] at p4
 have kg:iF 10 (S.drop o)=S.drop (o+(fX 10 (S.drop o)).length+1):=by unfold iF;rw[abc];congr 1
 rw[kg,mP] at p4;obtain⟨w,W⟩:=bb (fX 10 (S.drop o));rw[<-W] at p2 p4 w1 w2 w3 w4 w5;rw[mP] at w1 w4;have hg:∀i,o<=i->i<o+w.length->S[i]?≠some 10:=λi K I h=>w3 (i-o) an (by rw[ab1,show o+(i-o)=i by omega];exact h)
 have L:o+w.length<S.length->S[o+w.length]?=some 10:=λh=>by have:=w4 an;rwa[ab1] at this
 by_cases hj:j<w.length
 .obtain⟨r,n,u,hr,hn,jl⟩:=ZQ (t:=S) (m:=10) ah9 (i:=o+j) (k:=o+w.length) an an (λi K I=>hg i an I) L
  have h5:o+j<S.length:=an
  have cU:((r:Int) !=10)=true:=by have q:r≠10:=hr;simp;omega
  simp[h5,u,cU,-aab];refine⟨(o,j+n,rs,B),?_,⟨p1,by rw[<-W];simp only;omega,p3,?_⟩,?_,?_⟩
  .simp only;omega
  .simp only;rw[Z7,<-W,mP,kg,<-W];exact p4
  .simp[av]
  .simp[ak,ay.cl,aZ,V.cl,Tk.cl,acY]
 have M:j=w.length:=an
 subst M
 by_cases g:o+w.length<S.length
 .rw[if_pos an] at p4;obtain⟨q,N⟩:=bb (o+w.length);have u:=IY (L g) ah9;rw[<-N] at u g p4 |-
  have O:(S.drop o).take (q-o)=w:=by rw[show q-o=w.length by omega];exact w2
  have P:((o:Int)<=(q:Int))=True:=ah7;have Q:((q:Int)<=(S.length:Int))=True:=ah7
  have e3:aC .i64 q 1=(q+1:Nat):=qq
  have X:=Dh 10 (S.drop (q+1));obtain⟨dv,Y⟩:∃dv:Int,dv=((B.getD 0:Nat):Int):=⟨_,rfl⟩;obtain⟨D,z⟩:∃D:List UInt8->Bool->Bool->ae,∀s e d,D s e d=[some (.cells [.vs [] .full,.int .u32 0]),some (.cells [.vs (RL rs) (.own 3),.int .u32 dv]),some (.dF S (q+1)),some (.zone rs.length),some (.cells [.str s,.bool e,.bool d])]:=⟨_,λ_ _ _=>rfl⟩
  have hh:∀s e d,iq (D s e d):=λs e d m hm=>by
   rw[z] at hm |-;simp only[aa2,abV] at hm;simp[ay.cl,aZ,V.cl,Tk.cl,show 3<m by omega]
  have Z:∀s e d s' e' d',fO (D s e d) 4 s' e' d'=D s' e' d':=λs e d s' e' d'=>by rw[z,z];rfl
  have TG:∀s e d,vl (D s e d) 4 s e d:=λs e d=>⟨by rw[z];rfl,hh s e d⟩;obtain⟨f,hf⟩:=bb (gX (gY 32 w) []);obtain⟨ws,v_⟩:=bb (ba (gY 32 w))
  have a:gY 32 w=f::ws:=by rw[hf,v_];exact zIl w
  have R:∀x∈ws,gJ x:=λx hx=>Tz w x (by rw[a];simp[hx])
  have M:aP (f::ws)=w:=by rw[<-a];exact Tx w
  have hz:(aP ws).length<=w.length:=by rw[<-M];exact Z1 f ws
  have q1:=I4 (G:=G) (H:=D w false false) (b:=4) (l:=[]) (ws:=f::ws) (d:=false) (by rw[<-a];exact Tz w) (by
   rw[show eR [] (f::ws)=w by rw[eR,if_neg ir,M],show bp (f::ws)=false by simp[bp]];exact TG w false false) (by rw[M];omega)
  rw[show gX (f::ws) []=f from rfl,show ba (f::ws)=ws from rfl,show bp (f::ws)=false by simp[bp],Z,Bool.or_false] at q1
  have I9:U=(mE,o,2)->pT U=.bc [TC,.int .i64 o,.int .i64 2]:=λh=>by rw[h];rfl
  rw[<-Y]
  by_cases C:f=[111,110]/\B=none
  .obtain⟨p,rfl⟩:=C;simp only[acy] at Y;simp only[uN,X,if_false] at p4;have F5:vl (D (eR f ws) (bp ws) false++[none]) 4 (eR f ws) (bp ws) false:=(TG _ _ _).I3 (λn=>rfl);obtain⟨s,e,E,x,c,g1,g2⟩:=zD3 (G:=G) R F5 an;rw[Tq (by rw[z];simp),Z] at c;have ju:((rs.length+1)*40<=140737488355328)=True:=ah7;have GJ:(∀f∈RL rs,f.length=4)=True:=eq_true (by intro f hf;simp only[RL,aan] at hf;obtain⟨y,_,rfl⟩:=hf;rfl)
   have eK:RL rs++[x.cs]=RL (rs++[x]):=by simp[RL]
   have zB:(f==[111,110])=true:=by simpa using p
   simp only[z,Ru.cs,aav,abf] at q1 c eK
   cases hb:E with
   | true =>
    have F:tP w=none:=GH λy hy=>g2 hb y hy.1.1 hy.1.2 (by rw[hy.2,a,p])
    have hd:oS w=none:=by
     cases h:oS w with
     | none=>rfl
     | some v=>have:=zt3 h;rw[a] at this;rw[show gX (f::ws) []=f from rfl,p] at this;cases this
    rw[F,hd] at p4;simp only at p4;rw[hb] at c;rw[I9 p4.symm,TC];simp[g,u,O,P,Q,-aab];refine cP q1 ?_;simp[zB,-aab];refine cP c ?_
    simp[ju,GJ,eK,e3,-aab]
   | false =>
    obtain⟨x1,x2,x3⟩:=g1 hb;have F:tP w=some x:=Z8 ⟨x1,x2⟩ (by rw[x3,a,p]);rw[F] at p4;simp only at p4;rw[hb] at c;simp[g,u,O,P,Q,-aab];refine cP q1 ?_;simp[zB,-aab];refine cP c ?_
    by_cases xM:64<=rs.length
    .rw[if_pos xM] at p4
     have BZ:rs.length=64:=an
     rw[<-p4];simp[BZ,pT,mE,Po.cs,RL,-aab]
    .rw[if_neg xM] at p4
     have hk:((rs.length:Int)==64)=false:=by simp;omega
     simp[hk,ju,GJ,eK,e3,-aab];refine⟨(q+1,0,rs++[x],none),?_,⟨by simp only;omega,ab5 _,by simp;omega,?_⟩,?_,?_⟩
     .simp only;omega
     .simp only;rw[N];rw[N] at p4;exact p4
     .simp[av]
     .simp[ak,ay.cl,aZ,V.cl,Tk.cl,Y]
  by_cases AB:f=[100,101,102,97,117,108,116]/\B=none
  .obtain⟨p,rfl⟩:=AB;simp only[acy] at Y;simp only[uN,X,if_false] at p4
   have F:tP w=none:=by
    cases h:tP w with
    | none=>rfl
    | some v=>have:=Z_ h;rw[a] at this;rw[show gX (f::ws) []=f from rfl,p] at this;cases this
   rw[F] at p4;simp only at p4;have c:=I4 (G:=G) R (TG (eR f ws) (bp ws) false) an;obtain⟨A,hA⟩:=bb (gX ws []);have lA:=EF ws;rw[<-hA] at c lA;rw[Z,abT] at c;have pA:=zmy (G:=G) A an;have m1:=Z0 (G:=G) (TG (eR (gX ws f) (ba ws)) (bp (ba ws)) (bp ws)) (if eQ A=none then 2 else 0);rw[EG,Z] at m1
   have zB:(f==[100,101,102,97,117,108,116])=true:=by simpa using p
   have hs:(f==[111,110])=false:=by rw[p];rfl
   have cO:bp ws=false->(eQ A).isNone=false->bp (ba ws)=true->∃v,eQ A=some v/\oS w=some v:=by
    intro a1 a2 a3;obtain⟨v,T⟩:=aaJ.1 (by rw[<-abQ,a2];rfl);refine⟨v,T,Z9 (BT T).1 ?_⟩;rw[a,IT,(BT T).2,p]
    cases ws with
    | nil=>simp[bp] at a1
    | cons y r =>
     have:r=[]:=of_decide_eq_true a3;rw[this,hA];rfl
   have E:bp ws=true\/(eQ A).isNone=true\/bp (ba ws)=false->oS w=none:=by
    intro h
    cases hd:oS w with
    | none=>rfl
    | some v =>
     obtain⟨d1,d2⟩:=TB hd;rw[a,IT] at d2
     injection d2 with _ d2
     rw[<-d2] at h hA
     have:eQ A=some v:=by rw[hA];exact GI d1
     rw[this] at h;simp[bp,ba] at h
   simp only[z] at q1 c m1;simp only[j8] at pA;generalize eR (gX ws f) (ba ws)=s1 at *;simp[g,u,O,P,Q,-aab];refine cP q1 ?_;simp[zB,hs,-aab];refine cP c ?_;simp[-aab];refine aw pA ?_;simp[-aab];refine cP m1 ?_
   cases a1:bp ws<;>cases a2:(eQ A).isNone<;>cases a3:bp (ba ws)
   rotate_left
   .obtain⟨v,T,hd⟩:=cO a1 a2 a3;rw[hd] at p4;simp only at p4;simp[T,e3,-aab];refine⟨(q+1,0,rs,some v),?_,⟨by simp only;omega,ab5 _,p3,?_⟩,?_,?_⟩
    .simp only;omega
    .simp only;rw[N];rw[N] at p4;exact p4
    .simp[av]
    .simp[ak,ay.cl,aZ,V.cl,Tk.cl]
   all_goals
    rw[E (by rw[a1,a2,a3];simp)] at p4;simp only at p4;rw[I9 p4.symm,TC];simp[-aab]
  .have hp:U=(mE,o,2):=by
    rw[<-p4]
    cases B with
    | some v=>simp only[uN,X,if_false]
    | none =>
     simp only[uN,X,if_false]
     have F:tP w=none:=by
      cases h:tP w with
      | none=>rfl
      | some v=>have:=Z_ h;rw[a] at this;exact absurd ⟨this,rfl⟩ C
     have hd:oS w=none:=by
      cases h:oS w with
      | none=>rfl
      | some v=>have:=zt3 h;rw[a] at this;exact absurd ⟨this,rfl⟩ AB
     rw[F,hd]
   rw[I9 hp,TC];simp only[z] at q1
   cases B with
   | some v =>
    simp[g,u,O,P,Q,-aab];refine cP q1 ?_
    cases K:(f==[111,110])<;>cases I:(f==[100,101,102,97,117,108,116])<;>simp[K,I,-aab]
   | none =>
    have K:(f==[111,110])=false:=by simpa using λh=>C ⟨h,rfl⟩
    have I:(f==[100,101,102,97,117,108,116])=false:=by simpa using λh=>AB ⟨h,rfl⟩
    simp[g,u,O,P,Q,-aab];refine cP q1 ?_;simp[K,I,-aab]
 .rw[if_neg an] at p4
  have ht:o+w.length=S.length:=an
  simp only[uN,if_true] at p4
  by_cases J:w=[]
  .rw[if_pos J] at p4
   have ho:o=S.length:=by rw[<-ht,J];simp
   subst ho
   cases B with
   | none =>
    simp only at p4;rw[<-p4]
    simp[g,J,pT,mE,Po.cs,RL]
   | some v =>
    simp only at p4;rw[<-p4];simp[g,J,pT,Po.cs]
  .rw[if_neg J] at p4;have FJ:((o:Int)<(S.length:Int))=True:=eq_true (by have:=abn.2 J;omega);rw[<-p4];simp[g,FJ,pT,mE,Po.cs,RL]
def zqG[bI G](c:List af)(x:af)(h:c.length<4096):FP G 407 [FL c,FL [x]] (.bc [FL (x::c),.int .i64 (c.length+1:Nat),.int .i64 0]):=by
 refine bw bI.afJ (aaa rfl) ?_
 have a:aC .i64 c.length 1=(c.length+1:Nat):=qq
 have e:(4096<((c.length+1:Nat):Int))=False:=ah8;have f:((1+c.length)*32<=140737488355328)=True:=ah7;have b:IL [x]=[x.cs]:=rfl;have g:∀c,x.cs::IL c=IL (x::c):=λ_=>rfl
 by_cases d:c=[]
 .subst d;have a:aC .i64 (0:Int) 1=1:=rfl;simp[FL,a,b]
 .have i:(IL c=[])=False:=eq_false (by simpa[Si] using d);simp[FL,a,e,f,i,b,g,-aab]
def zqH[bI G](c:List af)(t:Nat):FP G 408 [FL c,.int .i64 t] (.bool (decide (1<=t/\t<=c.length))):=by
 refine bw bI.afK (aaa rfl) ?_
 by_cases b:1<=t
 .have a:(1<=(t:Int))=True:=ah7
  have d:((t:Int)<=(c.length:Int))=(t<=c.length):=by simp
  simp[FL,a,d,b]
 .have a:(1<=(t:Int))=False:=ah8;simp[FL,a,b]
def zIm[aE G][bI G](c:List af)(op:Int)(k:Nat)(e:ID op k)(h:c.length<4096):FP G 409 [FL c,IV ⟨op,0,0,k⟩] (.bc [FL (bx c op k),.int .i64 (bx c op k).length,.int .i64 0]):=by refine bw bI.afL (aaa rfl) ?_;obtain⟨f,j,g,i⟩:=ztJ e;have a:=Oa (G:=G) ⟨op,0,0,k⟩;have b:=zL (G:=G) ⟨op,0,0,k⟩;have d:=zqG (G:=G) c ⟨op,0,0,k⟩ h;rw[f] at a;rw[g] at b;simp only[IV,af.cs,FL,IL,aa6,ac6] at a b d;simp[FL,IV,af.cs];refine aw a ?_;simp[aG i];refine aw b ?_;simp;refine aw d ?_;simp[bx,IL,af.cs]
def zGy[bI G](c:List af)(t:Nat)(g:1<=t/\t<c.length)(h:c.length<4096):FP G 410 [FL c,.int .i64 t] (.bc [FL (⟨5,0,0,c.length-t⟩::c),.int .i64 (c.length+1:Nat),.int .i64 0]):=by
 refine bw bI.afM (aaa rfl) ?_;have a:=zqH (G:=G) c t;rw[decide_eq_true (show 1<=t/\t<=c.length by omega)] at a;have b:=zqG (G:=G) c ⟨5,0,0,c.length-t⟩ h;simp only[af.cs,FL,IL,aa6,ac6] at a b;have i:((t:Int)=(c.length:Int))=False:=ah8
 have d:((t:Int)==(c.length:Int))=false:=by simp;omega
 have e:bO .i64 c.length (t:Int)=((c.length-t:Nat):Int):=by rw[nW]<;>omega
 have f:fc .u32 ((c.length-t:Nat):Int)=((c.length-t:Nat):Int):=IntWalk.u32_in _ ⟨an,an⟩;simp[FL,IL];refine aw a ?_;simp[d,e,f];refine aw b ?_;simp[af.cs]
def zt4[bI G](c:List af)(t:Nat)(e:1<=t/\t<=c.length)(h:c.length<4096):FP G 411 [FL c,.int .i64 t] (.bc [FL (bT c t),.int .i64 (gu c t),.int .i64 0]):=by
 refine bw bI.afN (aaa rfl) ?_
 have b:bO .i64 c.length (t:Int)=((c.length-t:Nat):Int):=by rw[nW]<;>omega
 by_cases d:c.length-t<=254
 .have a:(((c.length-t:Nat):Int)<=254)=True:=ah7;simp[FL,b,a,bT,gu,d]
 .have a:(((c.length-t:Nat):Int)<=254)=False:=ah8;have w:=zGy (G:=G) c t an h;simp only[FL] at w;simp[FL,b,a,bT,gu,d];refine aw w ?_;simp
def zzR[aE G][bI G](c:List af)(op:Int)(k t f:Nat)(l:sO op)(a:1<=t/\t<=c.length)(m:1<=f/\f<=c.length)(h:c.length+3<=4096) :
  FP G 412 [FL c,.int .i64 op,.int .u32 k,.int .i64 t,.int .i64 f] (.bc [FL (gD c op k t f),.int .i64 (gD c op k t f).length,.int .i64 0]):=by
 refine bw bI.afO (aaa rfl) ?_
 have w:aX op=true:=by rcases l with rfl|rfl|rfl<;>decide
 have b:=zL (G:=G) ⟨op,0,0,k⟩;have d:=Oa (G:=G) ⟨op,0,0,k⟩
 have x:jS ⟨op,0,0,k⟩=true:=by
  have e:∀op:Int,sO op->(oG op).map (λr=>(r.2.2.1,r.2.2.2))=some (true,true):=by rintro op (rfl|rfl|rfl)<;>decide
  have n:=e op l;rw[ab7] at n;obtain⟨r,y,g⟩:=n;simp only[adu.injEq] at g;simp[jS,y,g.1,g.2]
 rw[w] at b;rw[x] at d;have z:=BM c t;have A:=BM (bT c t) f;have D:=Le a;have p1:=z.len;have o:1<=f/\f<=(bT c t).length:=⟨m.1,an⟩;have E:=Le o;have p2:=A.len;have i:=zqH (G:=G) c t;have j:=zqH (G:=G) c f;rw[decide_eq_true a] at i;rw[decide_eq_true m] at j;have p:=zt4 (G:=G) c t a an;have q:=zt4 (G:=G) (bT c t) f o an;have s:=zqG (G:=G) (bT (bT c t) f) ⟨op,((bT (bT c t) f).length-gu c t:Nat),((bT (bT c t) f).length-gu (bT c t) f:Nat),k⟩ an
 unfold gD;generalize F:bT (bT c t) f=c2 at *;generalize bT c t=c1 at *;generalize gu c t=u at *;generalize gu c1 f=v at *
 have B:bO .i64 c2.length (u:Int)=((c2.length-u:Nat):Int):=by rw[nW]<;>omega
 have C:bO .i64 c2.length (v:Int)=((c2.length-v:Nat):Int):=by rw[nW]<;>omega
 simp only[IV,af.cs,FL,IL,aa6,ac6] at b d i j p q s;simp[FL,IL];refine aw b ?_;simp;refine aw d ?_;simp;refine aw i ?_;simp;refine aw j ?_;simp;refine aw p ?_;simp;refine aw q ?_;simp[B,C];refine aw s ?_;simp[af.cs]
def zBG[eC G](a:Int)(h:0<=a/\a<=5):FP G 413 [.int .i64 a] (.int .u32 ((16+8*a.toNat:Nat):Int)):=by
 have:a=0\/a=1\/a=2\/a=3\/a=4\/a=5:=an
 rcases this with rfl|rfl|rfl|rfl|rfl|rfl<;>(refine bw eC.xA (aaa rfl) ?_)<;>simp<;>decide
def zGz[eC G](a:Int)(h:0<=a/\a<=5):FP G 414 [.int .i64 a] (.int .u32 ((20+8*a.toNat:Nat):Int)):=by
 refine bw eC.afP (aaa rfl) ?_;have w:=zBG (G:=G) a h
 have:a=0\/a=1\/a=2\/a=3\/a=4\/a=5:=an
 rcases this with rfl|rfl|rfl|rfl|rfl|rfl<;>simp<;>refine aw w ?_<;>simp<;>decide
def oT(c:List af)(tk:Tk):ay:=.cells [.vs (IL c) tk,.int .i64 0]
structure og (H:ae) (b:Nat) (c:List af) (tk:Tk):Prop where
 hb:H[b]?=some (some (oT c tk))
 eI:tk=.no\/tk=.full
 shut:iq H
def dN(H:ae)(b:Nat)(c:List af):ae:=H.set b (some (oT c .no))
@[simp] theorem rQ (H:ae) (b:Nat) (c:List af):(dN H b c).length=H.length:=by simp[dN]
section
variable {H:ae} {b:Nat} {c c':List af} {tk:Tk}
def og.lb(h:og H b c tk):b<H.length:=(aaf.1 h.hb).1
def yW(h:iq H)(c':List af):iq (dN H b c'):=by intro n a;simp only[rQ] at a;have c:=h n a;unfold dN;rw[Ep,c];simp[oT,ay.cl,aZ,V.cl,Tk.cl]
def og.set(h:og H b c tk)(c':List af):og (dN H b c') b c' .no:=⟨by rw[dN,aaG h.lb],.inl rfl,yW h.shut c'⟩
def Di(c c':List af):dN (dN H b c) b c'=dN H b c':=by simp[dN]
def GL{i:Nat}(h:i≠b)(c':List af):(dN H b c')[i]?=H[i]?:=by rw[dN,aaA (Ne.symm h)]
def O7(h:b<H.length)(c':List af)(R:ae):dN (H++R) b c'=dN H b c'++R:=by rw[dN,dN,abB _ _ h]
def iq.aag(h:iq H){R:ae}(b:∀m,H.length+R.length<=m->R.map (aaw (ay.cl m))=R):iq (H++R):=by intro m a;rw[aaU] at a;rw[aap,h m an,b m a]
def og.app(h:og H b c tk){R:ae}(a:∀m,H.length+R.length<=m->R.map (aaw (ay.cl m))=R):og (H++R) b c tk :=
 ⟨by rw[aah h.lb];exact h.hb,h.eI,h.shut.aag a⟩
def og.cU(h:og H b c tk):H[b]?=some (some (.cells [.vs (IL c) tk,.int .i64 0])):=h.hb
def og.ne(h:og H b c tk){i:Nat}{v:V}(hi:H[i]?=some (some (.cells [v]))):i≠b:=by intro e;rw[e,h.hb] at hi;simp[oT] at hi
def zyj[eO G](h:og H b c tk)(c':List af)(l:Nat):SF G 415 [.ptr b 0,FL c',.int .i64 l,.int .i64 0] H (.int .i64 l) (dN H b c'):=by
 refine kr eO.afQ (aaa rfl) ?_;have d:=h.cU;have e:=h.lb;have a:=(yW (b:=b) h.shut c').self;rw[rQ] at a;simp only[dN,oT] at a;have f:∀x:Option ay,(H.set b x)[b]?=some x:=λx=>aaG e;simp[d,FL,f,dN,oT,a]
 done
def LC[aE G][bI G][eO G](h:og H b c tk)(op:Int)(k:Nat)(f:ID op k)(g:c.length<4096):SF G 416 [.ptr b 0,.int .i64 op,.int .u32 k] H (.int .i64 (bx c op k).length) (dN H b (bx c op k)):=by refine kr eO.afR (aaa rfl) ?_;have a:=zIm (G:=G) c op k f g;have d:=zyj (G:=G) h (bx c op k) (bx c op k).length;have e:=(yW (b:=b) h.shut (bx c op k)).self;rw[rQ] at e;have i:=h.cU;simp only[FL,IV,af.cs] at a d;simp[i];refine aw a ?_;simp;refine cP d ?_;simp[e]
def I_[aE G][bI G][eO G](h:og H b c tk)(op:Int)(k t f:Nat)(g:sO op)(i:1<=t/\t<=c.length)(j:1<=f/\f<=c.length)(l:c.length+3<=4096) :
  SF G 417 [.ptr b 0,.int .i64 op,.int .u32 k,.int .i64 t,.int .i64 f] H (.int .i64 (gD c op k t f).length) (dN H b (gD c op k t f)):=by
 refine kr eO.afS (aaa rfl) ?_;have a:=zzR (G:=G) c op k t f g i j l;have d:=zyj (G:=G) h (gD c op k t f) (gD c op k t f).length;have e:=(yW (b:=b) h.shut (gD c op k t f)).self;rw[rQ] at e;have m:=h.cU;simp only[FL] at a d;simp[m];refine aw a ?_;simp;refine cP d ?_;simp[e]
def zyk[aE G][bI G][eO G]{H1:ae}{c:List af}{g:Nat}{cap:List V}{r:V}(at_ a:Nat)(j:SF G g cap H r H1)(e:og H1 b c .no)(d:H1.length=H.length)
  (k:ID 32 at_) (p:c.length+1<4096):SF G 418 [.ptr b 0,.int .u32 at_,.int .u32 a,.fn g cap] H (.bc []) (dN H1 b (bx (bx c 84 a) 32 at_)):=by
 refine kr eO.afT (aaa rfl) ?_;have l:=LC (G:=G) e 84 a (.inl rfl) an;have f:=LC (G:=G) (e.set (bx c 84 a)) 32 at_ k (by simp[bx];omega);rw[Di] at f;have i:=(yW (b:=b) e.shut (bx (bx c 84 a) 32 at_)).self;rw[rQ,d] at i;obtain⟨q,H2,m,n,o⟩:=j;simp;refine kW (H1:=H2) (by simpa using m) (λh=>by simp at h) ?_;rw[n,o];simp;refine cP l ?_;simp;refine cP f ?_
 simp[i]
def uO(n:Int):Option (Option ay):=some (some (.cells [.int .i64 n]))
def O8(n:Int):Option (Option ay):=some (some (.cells [.int .u32 n]))
def zBH[aE G][bI G][eO G](h:og H b c tk){pm po a pt d:Nat}(op:Int)(k t f:Nat)(m:H[pm]?=some (some (.cells [.ptr b 0])))(e:H[po]?=uO op)(g:H[a]?=O8 k)(i:H[pt]?=uO t)(j:H[d]?=uO f)
  (n:sO op) (o:1<=t/\t<=c.length) (p:1<=f/\f<=c.length) (q:c.length+3<=4096) :
  SF G 419 [.ptr pm 0,.ptr po 0,.ptr a 0,.ptr pt 0,.ptr d 0] H (.int .i64 (gD c op k t f).length) (dN H b (gD c op k t f)):=by
 refine kr eO.afU (aaa rfl) ?_;have w:=I_ (G:=G) h op k t f n o p q;have l:=(yW (b:=b) h.shut (gD c op k t f)).self;rw[rQ] at l;simp only[uO,O8] at e g i j;simp[m,e,g,i,j];refine cP w ?_;simp[l]
def Ja(c:List af)(op:Int)(k t f a:Nat):List af:=if op=21 then gD c 21 k a f else gD (gD c 37 k t f) 21 k a (gD c 37 k t f).length
def B2(H:ae)(c:List af)(op:Int)(k t f a:Nat):ae:=if op=21 then H else H.set a (uO ((gD c 37 k t f).length:Nat)).get!
def zBI[aE G][bI G][eO G](h:og H b c tk){pm po l pt a m:Nat}(op:Int)(k t f d:Nat)(p:H[pm]?=some (some (.cells [.ptr b 0])))(q:H[po]?=uO op)(o:H[l]?=O8 k)(r:H[pt]?=uO t)(i:H[a]?=uO f)(s:H[m]?=uO d)
  (u:pm≠a/\l≠a/\m≠a) (F:1<=t/\t<=c.length) (A:1<=f/\f<=c.length) (B:1<=d/\d<=c.length) (U:c.length+6<=4096) :
  SF G 420 [.ptr po 0,.ptr pm 0,.ptr l 0,.ptr pt 0,.ptr a 0,.ptr m 0] H (.int .i64 (Ja c op k t f d).length) (dN (B2 H c op k t f a) b (Ja c op k t f d)):=by
 refine kr eO.afV (aaa rfl) ?_;have nm:=h.ne p;have W:=h.ne (by simpa[uO] using q);have I:=h.ne (by simpa[O8] using o);have X:=h.ne (by simpa[uO] using r);have v:=h.ne (by simpa[uO] using i);have J:=h.ne (by simpa[uO] using s)
 have y:a<H.length:=by simp only[uO] at i;exact(aaf.1 i).1
 simp only[uO,O8] at q o r i s
 by_cases e:op=21
 .subst e;have w:=I_ (G:=G) h 21 k d f (.inl rfl) B A an;have j:=(yW (b:=b) h.shut (gD c 21 k d f)).self;rw[rQ] at j;simp[p,q,o,r,i,s];refine cP w ?_;simp[j,Ja,B2]
 .have K:=I_ (G:=G) h 37 k t f (.inr (.inl rfl)) F A an;have g:=(Ej c 37 k t f).len;have Y:=zry c 37 k t f;simp only[Ja,B2,if_neg e,uO,Option.get!_some];generalize Z:gD c 37 k t f=c1 at *
  have C:iq ((dN H b c1).set a (some (.cells [.int .i64 (c1.length:Nat)]))):=by intro n D;rw[abt] at D;rw[Ep,yW h.shut c1 n D];simp[ay.cl,aZ,V.cl]
  have L:og ((dN H b c1).set a (some (.cells [.int .i64 (c1.length:Nat)]))) b c1 .no:=⟨by rw[aaA v];exact(h.set c1).hb,.inl rfl,C⟩;have E:=I_ (G:=G) L 21 k d c1.length (.inl rfl) ⟨B.1,an⟩ an an;have j:=(yW (b:=b) C (gD c1 21 k d c1.length)).self;rw[rQ,abt,rQ] at j;have e':(op !=21)=true:=ki e
  have M:(dN H b c1)[pm]?=some (some (.cells [.ptr b 0])):=by rw[GL nm];exact p
  have N:(dN H b c1)[l]?=some (some (.cells [.int .u32 k])):=by rw[GL I];exact o
  have O:(dN H b c1)[a]?=some (some (.cells [.int .i64 f])):=by rw[GL v];exact i
  have P:(dN H b c1)[m]?=some (some (.cells [.int .i64 d])):=by rw[GL J];exact s
  have Q:∀x,((dN H b c1).set a x)[pm]?=some (some (.cells [.ptr b 0])):=λx=>by rw[aaA u.1.symm];exact M
  have R:∀x,((dN H b c1).set a x)[l]?=some (some (.cells [.int .u32 k])):=λx=>by rw[aaA u.2.1.symm];exact N
  have S:∀x,((dN H b c1).set a x)[m]?=some (some (.cells [.int .i64 d])):=λx=>by rw[aaA u.2.2.symm];exact P
  have T:∀x:Option ay,((dN H b c1).set a x)[a]?=some x:=λx=>aaG (by rw[rQ];exact y)
  have z:dN ((dN H b c1).set a (some (.cells [.int .i64 (c1.length:Nat)]))) b (gD c1 21 k d c1.length)=dN (H.set a (some (.cells [.int .i64 (c1.length:Nat)]))) b (gD c1 21 k d c1.length):=by
   unfold dN;rw[List.set_comm _ _ (Ne.symm v)];simp
   done
  rw[z] at j E;simp[p,q,o,r,i,e,e'];refine cP K ?_;simp[O,Q,R,S,T];refine cP E ?_;simp[j]
def tR(b:Nat)(y:Cd)(t f:Nat):ae:=[some (.cells [.ptr b 0]),some (.cells y.cs),some (.cells [.int .i64 t]),some (.cells [.int .i64 f]),some (.cells [.int .u32 (lo y.val:Nat)]),some (.cells [.int .u32 (hi y.val:Nat)]),some (.cells [.int .i64 (km y.cmp)])]
def zFz{b m:Nat}(y:Cd)(t f:Nat)(a:b<m):(tR b y t f).map (aaw (ay.cl m))=tR b y t f:=by simp[tR,ay.cl,aZ,V.cl,Cd.cs,a]
def zD6[aE G][bI G][eO G](h:og H b c tk)(y:Cd)(t f:Nat)(d:y.right=true)(e:1<=t/\t<=c.length)(j:1<=f/\f<=c.length)(k:c.length+13<=4096) :
  SF G 418 [.ptr b 0,.int .u32 (16+8*y.arg.toNat:Nat),.int .u32 (lo y.mask:Nat),.fn 419 [.ptr H.length 0,.ptr (H.length+6) 0,.ptr (H.length+4) 0,.ptr (H.length+2) 0,.ptr (H.length+3) 0]] (H++tR b y t f) (.bc []) (dN H b (bX c y t f)++tR b y t f):=by
 have a:=h.app (R:=tR b y t f) (λm l=>zFz y t f (by have:=h.lb;omega))
 have g:∀i,(H++tR b y t f)[H.length+i]?=(tR b y t f)[i]?:=λi=>by rw[aaj an];congr 1;omega
 have w:=zBH (G:=G) a (km y.cmp) (lo y.val) t f (g 0) (g 6) (g 4) (g 2) (g 3) (Y7 _) e j an;have:=(Ej c (km y.cmp) (lo y.val) t f).len;have p:=zyk (G:=G) (b:=b) (16+8*y.arg.toNat) (lo y.mask) w (a.set _) ir (SX d 16 (.inl rfl)) an;rw[Di,O7 h.lb] at p;exact p
def zD7[aE G][bI G][eO G](h:og H b c tk)(y:Cd)(t f:Nat)(j:y.right=true)(k:1<=t/\t<=c.length)(l:1<=f/\f<=c.length)(x:c.length+13<=4096) :
  ∃R,SF G 418 [.ptr b 0,.int .u32 (20+8*y.arg.toNat:Nat),.int .u32 (hi y.mask:Nat),.fn 420 [.ptr (H.length+6) 0,.ptr H.length 0,.ptr (H.length+5) 0,.ptr (H.length+2) 0,.ptr (H.length+3) 0,.ptr (H.length+7) 0]]
   (dN H b (bX c y t f)++(tR b y t f++[some (.cells [.int .i64 (bX c y t f).length])])) (.bc []) (dN H b (El c y t f)++some (.cells [.ptr b 0])::R):=by
 have z:=(OI c y t f).len;have o:=h.set (bX c y t f)
 have a:=o.app (R:=tR b y t f++[some (.cells [.int .i64 (bX c y t f).length])]) (λm q=>by
  have:=h.lb;simp only[rQ] at q;rw[aap,zFz y t f an]
  simp[ay.cl,aZ,V.cl])
 have g:∀i,(dN H b (bX c y t f)++(tR b y t f++[some (.cells [.int .i64 (bX c y t f).length])]))[H.length+i]?=(tR b y t f++[some (.cells [.int .i64 (bX c y t f).length])])[i]?:=λi=>by
  rw[aaj ir,rQ];congr 1;omega
 have w:=zBI (G:=G) a (km y.cmp) (hi y.val) t f (bX c y t f).length (g 0) (g 6) (g 5) (g 2) (g 3) (g 7) ⟨an,an,an⟩ ⟨k.1,an⟩ ⟨l.1,an⟩ an an
 have d:Ja (bX c y t f) (km y.cmp) (hi y.val) t f (bX c y t f).length=gD (rN c y t f) 21 (hi y.val) (bX c y t f).length (if km y.cmp=21 then f else(rN c y t f).length):=by
  unfold Ja rN
  split<;>rfl
 have r:iq (B2 (dN H b (bX c y t f)++(tR b y t f++[some (.cells [.int .i64 (bX c y t f).length])])) (bX c y t f) (km y.cmp) (hi y.val) t f (H.length+3)):=by
  unfold B2;split
  .exact a.shut
  .intro n e;rw[abt] at e;rw[Ep,a.shut n e];simp[uO,ay.cl,aZ,V.cl]
 have A:=(OJ c y t f).len;have B:=(Ej (rN c y t f) 21 (hi y.val) (bX c y t f).length (if km y.cmp=21 then f else(rN c y t f).length)).len
 have s:b<(B2 (dN H b (bX c y t f)++(tR b y t f++[some (.cells [.int .i64 (bX c y t f).length])])) (bX c y t f) (km y.cmp) (hi y.val) t f (H.length+3)).length:=by
  have:=h.lb;unfold B2
  split<;>simp<;>omega
 have u:og (dN (B2 (dN H b (bX c y t f)++(tR b y t f++[some (.cells [.int .i64 (bX c y t f).length])])) (bX c y t f) (km y.cmp) (hi y.val) t f (H.length+3)) b (Ja (bX c y t f) (km y.cmp) (hi y.val) t f (bX c y t f).length)) b _ .no :=
  ⟨by rw[dN,aaG s],.inl rfl,yW r _⟩
 have p:=zyk (G:=G) (b:=b) (20+8*y.arg.toNat) (hi y.mask) w u (by unfold B2;split<;>simp) (SX j 20 (.inr rfl)) (by rw[d];omega);rw[Di,d] at p
 obtain⟨R,v⟩:∃R,B2 (dN H b (bX c y t f)++(tR b y t f++[some (.cells [.int .i64 (bX c y t f).length])])) (bX c y t f) (km y.cmp) (hi y.val) t f (H.length+3)=dN H b (bX c y t f)++some (.cells [.ptr b 0])::R:=by
  unfold B2;split
  .exact⟨_,rfl⟩
  .rw[aau _ _ ir,rQ,show H.length+3-H.length=3 by omega];exact⟨_,rfl⟩
 rw[v,O7 (by simpa using h.lb),Di] at p;exact⟨R,p⟩
def zD8[aE G][bI G][eO G][dV G][di G][eC G](h:og H b c tk)(x:Cd)(t f:Nat)(j:x.right=true)(q:x.ok)(S:1<=t/\t<=c.length)(T:1<=f/\f<=c.length)(s:c.length+13<=4096) :
  SF G 421 [.ptr b 0,.agg x.cs,.int .i64 t,.int .i64 f] H (.int .i64 (fh c x t f).length) (dN H b (fh c x t f)):=by
 refine kr eO.afW (aaa rfl) ?_;have I:=j;simp only[Cd.right,decide_eq_true_eq] at I;have o:=zIe (G:=G) x;rw[Er,if_pos j] at o
 obtain⟨y,l⟩:∃y,y=if Em x then({ x with cmp:=yQ x.cmp }:Cd) else x:=⟨_,rfl⟩
 obtain⟨d,m⟩:∃d,d=if Em x then f else t:=⟨_,rfl⟩
 obtain⟨e,n⟩:∃e,e=if Em x then t else f:=⟨_,rfl⟩
 have a:x.cmp=0\/x.cmp=1\/x.cmp=2\/x.cmp=3\/x.cmp=4\/x.cmp=5:=an
 have u:fc .u32 x.val=((lo x.val:Nat):Int):=rfl;have v:fc .u32 x.mask=((lo x.mask:Nat):Int):=rfl;have w:=YL x.val q.2;have z:fc .u32 ((x.val/4294967296:Nat):Int)=((hi x.val:Nat):Int):=rfl;have A:=YL x.mask q.1;have B:fc .u32 ((x.mask/4294967296:Nat):Int)=((hi x.mask:Nat):Int):=rfl;have J:=zBG (G:=G) x.arg ⟨an,an⟩;have K:=zGz (G:=G) x.arg ⟨an,an⟩;have g:(H.length+7<=H.length)=False:=ah8
 have i:(H.length+8<=H.length)=False:=ah8;have C:(H.length+7<=H.length+1)=False:=ah8;have D:(H.length+8<=H.length+1)=False:=ah8
 have E:∀(c':List af) (r:ae) (k:Nat),(dN H b c'++r)[H.length+k]?=r[k]?:=λc' r k=>by rw[aaj ir,rQ];congr 1;omega
 have L:∀(c':List af) (r:ae),(dN H b c'++r)[H.length]?=r[0]?:=λc' r=>E c' r 0
 have M:∀(c':List af) (r:ae),(dN H b c'++r)[b]?=some (some (.cells [.vs (IL c') .no,.int .i64 0])):=λc' r=>by rw[aah (by simpa using h.lb)];exact(h.set c').hb
 have N:∀(c':List af) (r:ae) (k:Nat) (x:Option ay),(dN H b c'++r).set (H.length+k) x=dN H b c'++r.set k x:=λc' r k x=>by rw[aau _ _ ir,rQ];congr 1;congr 1;omega
 have p:∀(r:ae),(H++r)[b]?=some (some (.cells [.vs (IL c) tk,.int .i64 0])):=λr=>by rw[aah h.lb];exact h.hb
 have O:∀(c':List af) (r:ae),ak H.length (dN H b c'++r)=dN H b c':=λc' r=>by have:=(yW (b:=b) h.shut c').back r;rwa[rQ] at this
 have U:=h.lb;have tb:∀k:Nat,(b<H.length+k)=True:=λk=>eq_true an
 have P:fh c x t f=El c y d e:=by rw[fh,l,m,n];split<;>rfl
 have F:y.right=true:=by rw[l];split;exact OK j;exact j
 have p1:=zD6 (G:=G) h y d e F (by rw[m];split<;>assumption) (by rw[n];split<;>assumption) s;obtain⟨R,p2⟩:=zD7 (G:=G) h y d e F (by rw[m];split<;>assumption) (by rw[n];split<;>assumption) s;rw[<-P] at p2
 rcases a with a|a|a|a|a|a
 all_goals
  have Q:km y.cmp=if x.cmp=0\/x.cmp=1 then 21 else if x.cmp=2\/x.cmp=5 then 53 else 37:=by rw[l];simp[Em,a,km,yQ]
  simp only[tR,Cd.cs,Q] at p1 p2;rw[l,m,n] at p1 p2;simp[Em,a,yQ,-Int.ofNat_toNat,-aab,-abh] at p1 p2;simp only[Cd.cs,a] at o;generalize bX c _ _ _=c1 at p1 p2;generalize fh c x t f=c2 at p2 |-;simp[Cd.cs,a,u,v,w,z,A,B,acY,g,i,C,D,-acz]
  repeat
   (first|refine aw o ?_|refine aw J ?_|refine cP p1 ?_|refine aw K ?_|refine cP p2 ?_)
   simp[u,v,w,z,A,B,acY,g,i,C,D,E,L,M,N,p,yQ,-acz,-aab,-abh]
  exact O _ _
end
open Go Go.RowKit
variable {G:aL}
section
variable {H:ae} {b:Nat} {c:List af}
def zrO(h:og H b c .no):dN H b c=H:=Eo h.hb
def zsN{α:Type}{l:List α}{t:Nat}{y:α}(h:l[t]?=some y):l.drop t=y::l.drop (t+1):=by obtain⟨a,b⟩:=aaf.1 h;rw[abA a,b]
def znr:∀(l:List Ru) (t:Nat),vk (l.drop t)<=vk l
 | [],t=>by simp[vk]
 | r::l,0=>aaD _
 | r::l,t+1=>by
  have:=znr l t;simp only[List.drop_succ_cons,vk];omega
def zt5:∀l:List Ru,l.length<=vk l
 | []=>aaD _
 | r::l=>by have:=zt5 l;simp only[aa2,vk];omega
def zBJ[aE G][bI G][eO G][dV G][di G][eC G][fk G](h:og H b c .no)(l:List Ru)(tk:Tk)(eI:∀n,H.length<=n->tk.cl n=tk)(o:Nat)(F:∀r∈l,r.df)(U:1<=o/\o<=c.length)(hc:c.length+vk l<=4096) :
  SF G 427 [.ptr b 0,.vs (RL l) tk,.int .i64 o] H (.int .i64 (oe l (c,o)).2) (dN H b (oe l (c,o)).1):=by
 refine kr fk.af1 (aaa rfl) ?_;have V:=zt5 l
 have A:∀c',ak H.length (dN H b c')=dN H b c':=λc'=>by have:=(yW (b:=b) h.shut c').self;rwa[rQ] at this
 have B:=h.lb;have m:=eI H.length (aaD _);obtain⟨S,e⟩:∃S:Nat->rO,∀k,S k=oe (l.drop (l.length-k)) (c,o):=⟨_,λ_=>rfl⟩
 have BO:S 0=(c,o):=by rw[e,ac7,acA];rfl
 have yS:S l.length=oe l (c,o):=by rw[e,abD,acj]
 have s0:bO .i64 l.length 1=(l.length:Int)-1:=nW an an;have dY:=zrO h
 have GN:∀k,Came c (S k) (vk l):=λk=>by
  rw[e];exact(Lk (s:=(c,o)) (λr I=>F r (abj I)) U).mono (znr _ _)
 simp[s0];refine aO l.length (λk=>[(0,.ptr b 0),(1,.vs (RL l) tk),(2,.int .i64 (S k).2),(7,.int .i64 ((l.length:Int)-1-k))]) (λk=>dN H b (S k).1) (λ_=>True) ?_ ?_
 .simp[av,BO,dY,B,m,h.shut.self]
 intro k hk _
 by_cases ah:k<l.length
 .obtain⟨t,ht⟩:=bb (l.length-1-k)
  have J:t<l.length:=an
  obtain⟨y,hy⟩:=bb (l[t])
  have C:l[t]?=some y:=by rw[aae J,hy]
  have f:=Ke C
  have lD:(RL l)[t]'(by simpa using J)=y.cs:=by rw[aae (by simpa using J)] at f;exact aa_.inj f
  have p:=F y (aao C)
  have q:S (k+1)=zFx y (S k):=by rw[e,e,show l.length-(k+1)=t by omega,zsN C,oe,show t+1=l.length-k by omega]
  have et:(l.length:Int)-1-k=(t:Int):=an
  have TH:(l.length:Int)-1-((k+1:Nat):Int)=(t:Int)-1:=an
  have s1:bO .i64 t 1=(t:Int)-1:=nW an an
  have W:(S k).1.length+(1+13*y.conds.length)<=4096:=by
   have a:=Lk (l:=l.drop (l.length-k)) (s:=(c,o)) (λr I=>F r (abj I)) U;have X:=a.grown.len;rw[<-e] at X
   have Y:vk (l.drop t)=1+13*y.conds.length+vk (l.drop (l.length-k)):=by rw[zsN C,vk,show t+1=l.length-k by omega]
   have:=znr l t;simp only at X;omega
  have g:=GN k;obtain⟨⟨a,i⟩,pj⟩:=bb (S k);rw[<-pj] at q W g |-;simp only at W g;have Ku:=h.set a;have K:=LC (G:=G) Ku 6 y.act (.inr (.inl rfl)) an;rw[Di] at K;have Z:(bx a 6 y.act).length=a.length+1:=rfl;rw[Z] at K;rw[et]
  have B3:tk.cl (dN H b a).length=tk:=by rw[rQ];exact m
  simp only[Ru.cs] at f lD;simp(disch:=omega)[f];refine cP K ?_;have s2:bO .i64 y.conds.length 1=(y.conds.length:Int)-1:=nW an an;simp(disch:=omega)[f,s2];obtain⟨T,v⟩:∃T:Nat->rO,∀k,T k=Ay i (y.conds.drop (y.conds.length-k)) (bx a 6 y.act,a.length+1):=⟨_,λ_=>rfl⟩
  have wW:T 0=(bx a 6 y.act,a.length+1):=by rw[v,ac7,acA];rfl
  have nJ:T y.conds.length=S (k+1):=by rw[v,abD,acj,q];rfl
  refine aO y.conds.length (λj=>[(0,.ptr b 0),(1,.vs (RL l) tk),(2,.int .i64 i),(7,.int .i64 t),(8,.int .i64 (T j).2),(9,.int .i64 ((y.conds.length:Int)-1-j))]) (λj=>dN H b (T j).1) (λ_=>True) ?_ ?_
  .simp[av,wW,A,B,m]
  intro j hj _
  by_cases Bn:j<y.conds.length
  .obtain⟨u,hu⟩:=bb (y.conds.length-1-j)
   have L:u<y.conds.length:=an
   obtain⟨z,hz⟩:=bb (y.conds[u])
   have d:y.conds[u]?=some z:=by rw[aae L,hz]
   have D:=Mz d
   have Pf:(CL y.conds)[u]'(by simpa using L)=z.cs:=by rw[aae (by simpa using L)] at D;exact aa_.inj D
   have w:=p.1 z (aao d)
   have M:T (j+1)=(fh (T j).1 z (T j).2 i,(fh (T j).1 z (T j).2 i).length):=by rw[v,v,show y.conds.length-(j+1)=u by omega,zsN d,Ay,show u+1=y.conds.length-j by omega]
   have E:=S7 (o:=i) (l:=y.conds.drop (y.conds.length-j)) (s:=(bx a 6 y.act,a.length+1)) (λx hx=>p.1 x (abj hx)) ⟨g.jG.1,by have:=g.jG.2;simp only[bx,aa2] at this |-;omega⟩ ⟨an,aaD _⟩;rw[<-v] at E;have N:=E.grown.len;simp only[Z,acB] at N;obtain⟨⟨Y,o2⟩,tN⟩:=bb (T j);rw[<-tN] at M E N |-;simp only at N M;have cl:=E.jG;simp only at cl;have O:=g.jG.2;simp only at O
   have P:=zD8 (G:=G) (h.set Y) z o2 i w.1 w.2 cl ⟨g.jG.1,an⟩ an;rw[Di] at P
   have eu:(y.conds.length:Int)-1-j=(u:Int):=an
   have Q:(y.conds.length:Int)-1-((j+1:Nat):Int)=(u:Int)-1:=an
   have s3:bO .i64 u 1=(u:Int)-1:=nW an an;rw[eu];simp only[Cd.cs] at P D Pf;simp(disch:=omega)[f,D];refine cP P ?_;simp(disch:=omega)[av,A,B,m,s3,Q,M,Bn,-aab]
  .have:j=y.conds.length:=an
   subst this;have R:((y.conds.length:Int)<=(y.conds.length:Int)-1)=False:=ah8;simp(disch:=omega)[av,A,B,m,s1,TH,nJ,R,ah,-aab]
 .have:k=l.length:=an
  subst this;have R:((l.length:Int)<=(l.length:Int)-1)=False:=ah8;simp(disch:=omega)[A,yS,R]
def EL(l:List (Nat×Nat)):List (List V):=l.map λe=>[.int .u32 e.1,.int .i64 e.2]
@[simp] theorem zNU (l:List (Nat×Nat)):(EL l).length=l.length:=by simp[EL]
theorem zBK{l:List (Nat×Nat)}{i:Nat}{x:Nat×Nat}(h:l[i]?=some x):(EL l)[i]?=some [.int .u32 x.1,.int .i64 x.2]:=by simp[EL,h]
def zyl(l:List (Nat×Nat))(n:Nat):(EL l).take n=EL (l.take n):=by simp[EL]
def zGA(l:List (Nat×Nat))(n:Nat):(EL l).drop n=EL (l.drop n):=by simp[EL]
def TI(l:List (Nat×Nat)):(∀f∈EL l,f.length=2)=True:=by simp only[eq_iff_iff,iff_true];intro f a;simp only[EL,aan] at a;obtain⟨x,_,rfl⟩:=a;rfl
def zqI[aE G][bI G][eO G][fk G]{o:Nat}:∀(n:Nat) {H:ae} {b:Nat} {c:List af} (h:og H b c .no) (l:List (Nat×Nat)) (tk:Tk) (d:∀n,H.length<=n->tk.cl n=tk) (p:l≠[]) (z:l.length<=n) (i:kY c l) (q:∀e∈l,e.1<4294967296) (f:1<=o/\o<=c.length) (s:c.length+6*l.length<=4096),
  SF G 426 [.ptr b 0,.vs (EL l) tk,.int .i64 o] H (.int .i64 (bF n c l o).2) (dN H b (bF n c l o).1)
 | 0,H,b,c,h,l,tk,d,p,z,i,q,f,s=>absurd (abe.1 an) p
 | n+1,H,b,c,h,l,tk,d,p,z,i,q,f,s=>by
  have W:0<l.length:=abn.2 p
  have A:∀c',ak H.length (dN H b c')=dN H b c':=λc'=>by have:=(yW (b:=b) h.shut c').self;rwa[rQ] at this
  have X:=h.lb;have Y:=d H.length (aaD _);refine kr fk.af2 (aaa rfl) ?_
  by_cases B:l.length=1
  .obtain⟨e,rfl⟩:=List.length_eq_one_iff.1 B
   have t:bF (n+1) c [e] o=(gD c 21 e.1 e.2 o,(gD c 21 e.1 e.2 o).length):=by unfold bF;rfl
   rw[t];have w:=I_ (G:=G) h 21 e.1 e.2 o (.inl rfl) (i e ir) f (by simp at s;omega);simp[EL];refine cP w ?_;simp[A]
  .have Q:((l.length:Int)==1)=false:=by simp;omega
   obtain⟨a,j⟩:=bb (l.length/2)
   have q1:kF .i64 (l.length:Int) 2=(a:Int):=by unfold kF;have R:((l.length:Int).tdiv 2)=((l.length/2:Nat):Int):=rfl;rw[R,<-j];exact IntWalk.i64_in _ ⟨an,an⟩
   have C:(l.take a).length=a:=by rw[aas];omega
   have D:(l.drop a).length=l.length-a:=by rw[acB]
   have n1:l.take a≠[]:=by intro e;rw[e] at C;simp at C;omega
   have E:l.drop a≠[]:=by intro e;rw[e] at D;simp at D;omega
   have F:kY c (l.take a):=λe g=>i e (aaQ g);have I:kY c (l.drop a):=λe g=>i e (abj g);have J:∀e∈l.take a,e.1<4294967296:=λe g=>q e (aaQ g);have K:∀e∈l.drop a,e.1<4294967296:=λe g=>q e (abj g);have r:=Es n (c:=c) (l:=l.take a) n1 an F J f;have Z:=r.grown.len;have L:=Es n (c:=(bF n c (l.take a) o).1) (l:=l.drop a) E an (I.grown r.grown) K ⟨f.1,an⟩
   have g2:=L.grown.len;have u:=r.jG;have v:=L.jG;obtain⟨k,S⟩:=bb (l[a]'(by omega))
   have M:l[a]?=some k:=by rw[aae an,S]
   have T:l.getD a (0,0)=k:=by rw[List.getD,M];rfl
   have x:=zBK M
   have U:(EL l)[a]'(by simp;omega)=[.int .u32 k.1,.int .i64 k.2]:=by rw[aae (by simp;omega)] at x;exact aa_.inj x
   have V:=λtk d=>zqI (o:=o) n h (l.take a) tk d n1 an F J f an;have N:=λtk d=>zqI (o:=o) n (h.set (bF n c (l.take a) o).1) (l.drop a) tk (by rw[rQ];exact d) E an (I.grown r.grown) K ⟨f.1,an⟩ an
   have t:bF (n+1) c l o=(gD (bF n (bF n c (l.take a) o).1 (l.drop a) o).1 53 k.1 (bF n (bF n c (l.take a) o).1 (l.drop a) o).2 (bF n c (l.take a) o).2,
    (gD (bF n (bF n c (l.take a) o).1 (l.drop a) o).1 53 k.1 (bF n (bF n c (l.take a) o).1 (l.drop a) o).2 (bF n c (l.take a) o).2).length):=by
    conv=>lhs;unfold bF
    rw[if_neg B,<-j,T]
   rw[t];generalize bF n (bF n c (l.take a) o).1 (l.drop a) o=s2 at *;generalize bF n c (l.take a) o=s1 at *;have w:=I_ (G:=G) ((h.set s1.1).set s2.1) 53 k.1 s2.2 s1.2 (.inr (.inr rfl)) v ⟨u.1,an⟩ an;simp only[Di] at N w;have O:(a<=l.length)=True:=ah7;have b2:((0:Int)<=(a:Int))=True:=ah7;have f_:(EL l).take l.length=EL l:=aai ir
   have m:∀(P:Prop) [Decidable P] n,(if P then Tk.full else Tk.no).cl n=if P then Tk.full else Tk.no:=λP _ n=>by split<;>rfl
   have y:(l.drop a).take (l.length-a)=l.drop a:=aai an;simp(disch:=omega)[Q,q1,TI,zyl,O];refine cP (V _ (λn _=>m _ n)) ?_;simp(disch:=omega)[TI,zyl,zGA,O,y];refine cP (N _ (λn _=>m _ n)) ?_;simp(disch:=omega)[x];refine cP w ?_;simp[A]
end
open Go Go.RowKit
variable {G:aL}
def zGB(k:IntKind)(l:List Nat):(aq k l=[])=(l=[]):=by simp[aq]
def zBL[fk G](n:Nat)(H:ae):bE G (.F 424 [.int .u32 n] H (.int .u32 n) H):=by refine fg fk.afY (aaa rfl) ?_;simp
def zzS(l:List Nat)(x:Nat):k8 (l++[x])=sU x (k8 l):=by simp[k8,adh]
def Pg(l:List Nat):(k8 l).length=l.length:=(IK l).length_eq
def sE(x:Nat)(l:List Nat):Nat:=(l.takeWhile λy=>decide (y<=x)).length
def zrP(x:Nat)(l:List Nat):l.take (sE x l)=l.takeWhile (λy=>decide (y<=x)):=by
 have h:=abG (p:=λy=>decide (y<=x)) (l:=l);unfold sE
 conv=>lhs;arg 2;rw[<-h]
 exact abk rfl
def zzT(x:Nat)(l:List Nat):l.drop (sE x l)=l.dropWhile (λy=>decide (y<=x)):=by
 have h:=abG (p:=λy=>decide (y<=x)) (l:=l);unfold sE
 conv=>lhs;arg 2;rw[<-h]
 exact abI rfl
def zym(x:Nat)(l:List Nat):sU x l=l.take (sE x l)++x::l.drop (sE x l):=by rw[zrP,zzT];rfl
def zD9(x:Nat)(l:List Nat):sE x l<=l.length:=by have:=congrArg ab8 (abG (p:=λy=>decide (y<=x)) (l:=l));rw[aaU] at this;unfold sE;omega
def zEa{x:Nat}{l:List Nat}{j y:Nat}(h:j<sE x l)(a:l[j]?=some y):y<=x:=by refine Zo x (l:=l) y ?_;rw[<-zrP];exact aao (i:=j) (by rw[abg,if_pos h];exact a)
def zt6{x:Nat}:∀{l:List Nat} {y:Nat},l[sE x l]?=some y->¬y<=x
 | [],y,h=>by simp at h
 | b::l,y,h=>by
  by_cases a:b<=x
  .have e:sE x (b::l)=sE x l+1:=by simp[sE,a]
   rw[e,ab3] at h;exact zt6 h
  .have e:sE x (b::l)=0:=by simp[sE,a]
   rw[e] at h;simp at h;omega
def zzU[fk G]{H:ae}(a:iq H)(l:List Nat)(tk:Tk)(U:∀n,H.length<=n->tk.cl n=tk)(W:l≠[])(hl:l.length<=1000000) :
  SF G 423 [.vs (aq .u32 l) tk,.fn 424 []] H (.vs (aq .u32 (k8 l)) .no) H:=by
 refine kr fk.afX (aaa rfl) ?_;have ht:=La a;have K:=a.back;have e:=U H.length (aaD _);obtain⟨S,f⟩:∃S:Nat->List Nat,∀k,S k=k8 (l.take k):=⟨_,λ_=>rfl⟩
 obtain⟨b,m⟩:∃b:Nat->Tk,∀k,b k=if k=0 then .full else .no:=⟨_,λ_=>rfl⟩
 have X:S 0=[]:=by rw[f];rfl
 have Y:S l.length=k8 l:=by rw[f,abb]
 have o:∀k,k<=l.length->(S k).length=k:=λk M=>by rw[f,Pg,aas];omega
 simp;refine aO l.length (λk=>[(1,.fn 424 []),(5,.vs (aq .u32 (S k)) (b k)),(9,.vs (aq .u32 l) tk),(10,.int .i64 l.length),(11,.int .i64 k)]) (λ_=>H) (λ_=>True) ?_ ?_
 .simp[av,X,m,e,a.self]
 intro k M _;have my:0<l.length:=abn.2 W
 have p:∀(r:ae) (k:Nat),(H++r)[H.length+k]?=r[k]?:=λr k=>by rw[aaj an];congr 1;omega
 have Z:∀(r:ae),(H++r)[H.length]?=r[0]?:=λr=>p r 0;have N:(H.length+1<H.length)=False:=ah8
 by_cases g:k<l.length
 .obtain⟨x,hx⟩:=bb (l[k])
  have O:l[k]?=some x:=by rw[aae g,hx]
  have s:(aq .u32 l)[k]?=some [.int .u32 x]:=by simp[O]
  have yr:(aq .u32 l)[k]'(by simpa using g)=[.int .u32 x]:=by rw[aae (by simpa using g)] at s;exact aa_.inj s
  have c:S (k+1)=sU x (S k):=by rw[f,f,aaK,O];exact zzS _ _
  have t:=o k M
  have u:∀k n,(b k).cl n=b k:=λk n=>by rw[m];split<;>rfl
  have P:b (k+1)=.no:=by rw[m,if_neg an]
  obtain⟨L,hL⟩:=bb (S k);obtain⟨q,Q⟩:=bb (b k)
  have i:∀n,q.cl n=q:=λn=>by rw[Q];exact u k n
  rw[<-hL] at c t |-;rw[<-Q];have ha:=zD9 x L;simp(disch:=omega)[bC,s];refine aO (sE x L) (λj=>[(1,.fn 424 []),(5,.vs (aq .u32 L) q),(7,.int .u32 x),(8,.int .i64 j),(9,.vs (aq .u32 l) tk),(10,.int .i64 l.length),(11,.int .i64 k)]) (λ_=>H) (λ_=>True) ?_ ?_
  .simp[av,e,a.self,i]
  intro j hj _
  by_cases v:j<L.length
  .obtain⟨y,hy⟩:=bb (L[j])
   have w:L[j]?=some y:=by rw[aae v,hy]
   have z:(aq .u32 L)[j]?=some [.int .u32 y]:=by simp[w]
   have hb:(aq .u32 L)[j]'(by simpa using v)=[.int .u32 y]:=by rw[aae (by simpa using v)] at z;exact aa_.inj z
   have A:((j:Int)<(L.length:Int))=True:=ah7;simp(disch:=omega)[A,z];refine kW (zBL y H) (λh=>by simp at h) ?_;simp[a.self];refine kW (zBL x H) (λh=>by simp at h) ?_
   by_cases R:y<=x
   .have B:j<sE x L:=by
     rcases acd j (sE x L) with h|h
     .exact h
     .have:j=sE x L:=an
      subst this;exact absurd R (zt6 w)
    have C:((y:Int)<=(x:Int))=True:=ah7;simp(disch:=omega)[a.self,C,av,e,i,bA,B,-aab]
   .have B:j=sE x L:=by
     rcases acd j (sE x L) with h|h
     .exact absurd (zEa h w) R
     .omega
    have C:((y:Int)<=(x:Int))=False:=ah8;have d:(j<=L.length)=True:=ah7;have D:(aq .u32 (L.drop j)=[])=False:=eq_false (by rw[zGB,acV];omega);have Lw:(L.drop j).length=L.length-j:=acB
    have E:(L.take j).length=j:=by rw[aas];omega
    have B5:((1+(L.length-j))*4<=140737488355328)=True:=ah7;have F:((j+(L.length-j+1))*4<=140737488355328)=True:=ah7;have I:(L.drop j).take (L.length-j)=L.drop j:=aai an
    have J:S (k+1)=L.take j++x::L.drop j:=by rw[c,zym,<-B]
    have Jg:(aq .u32 (x::L.drop j)=[])=False:=eq_false (by simp[aq]);have Ph:[V.int .u32 x]::aq .u32 (L.drop j)=aq .u32 (x::L.drop j):=rfl;simp(disch:=omega)[a.self,C,av,e,d,CR,yH,I,D,Lw,E,B5,F,Jg,Ph,XU,p,Z,K,J,P,bA,g,N,-aab]
  .have jm:j=L.length:=an
   have A:((j:Int)<(L.length:Int))=False:=ah8;have d:(j<=L.length)=True:=ah7;have T:L.drop j=[]:=acV.2 an
   have E:(L.take j).length=j:=by rw[aas];omega
   have F:((j+1)*4<=140737488355328)=True:=ah7
   have J:S (k+1)=L.take j++[x]:=by rw[c,zym,show sE x L=j by omega,T]
   simp(disch:=omega)[A,av,e,d,CR,yH,T,E,F,p,K,J,P,bA,g,N,-aab]
 .have:k=l.length:=an
  subst this
  have e0:b l.length=.no:=by rw[m,if_neg an]
  simp(disch:=omega)[Y,e0,a.self]
def zrQ(R:Nat->List Ru)(o:Nat)(n:Nat):∀(l:List Nat) (c:List af),bH R o (l++[n]) c=((oe (R n) ((bH R o l c).1,o)).1,(bH R o l c).2++[(n,(oe (R n) ((bH R o l c).1,o)).2)])
 | [],c=>rfl
 | m::l,c=>by
  have a:=zrQ R o n l (oe (R m) (c,o)).1;simp only[aav,bH,a]
def zoB(g:Nat->Nat):∀(l:List Nat) (k:Nat) (x:Nat),l[k]?=some x->eX g (l.take k)+g x<=eX g l
 | [],k,x,h=>by simp at h
 | y::l,0,x,h=>by simp at h;subst h;simp[eX]
 | y::l,k+1,x,h=>by
  have:=zoB g l k x (by simpa using h);simp only[ac1,eX];omega
def zyn(l:List (Nat×Nat))(x:Nat×Nat):EL l++[[.int .u32 x.1,.int .i64 x.2]]=EL (l++[x]):=by simp[EL]
def zBM(es:List (V×V))(a:Nat)(l:List Nat)(n:Nat):Prop:=∃i tk,kc (.sc .int) (.int .u32 a) es 0=some (some (i,.vs (aq .u32 l) tk))/\∀m,n<=m->tk.cl m=tk
def zBN(es:List (V×V))(a k:Nat)(l:List Ru)(n:Nat):Prop:=∃i tk,kc (.row [.int,.int]) (.agg [.int .u32 a,.int .u32 k]) es 0=some (some (i,.vs (RL l) tk))/\∀m,n<=m->tk.cl m=tk
section
variable {H:ae} {b:Nat} {c:List af} {rs:List Ru}
def zBO[aE G][bI G][eO G][dV G][di G][eC G][fk G](h:og H b c .no){a o pn pm po px mn mo:Nat}{v i:List (V×V)}(w:H[pn]?=some (some (.cells [.mp mn])))(f:H[pm]?=some (some (.cells [.ptr b 0])))
  (P:H[po]?=some (some (.cells [.mp mo]))) (D:H[px]?=uO o) (By:H[mn]?=some (some (.map v))) (E:H[mo]?=some (some (.map i))) (Q:zBM v a (fR rs a) H.length) (hO:∀n∈fR rs a,zBN i a n (eW rs a n) H.length)
  (j:∀r∈rs,r.df) (ha:a∈eN rs) (hl:rs.length<=100) (F:1<=o/\o<=c.length) (hc:c.length+Eu rs a<=4096) :
  SF G 425 [.int .u32 a,.ptr pn 0,.ptr pm 0,.ptr po 0,.ptr px 0] H (.int .i64 (sV rs o a c).length) (dN H b (sV rs o a c)):=by
 refine kr fk.afZ (aaa rfl) ?_;have T:=h.lb;have I:=OR ha
 have mz:(fR rs a).length<=100:=by
  have h1:=OP ((rs.filter λr=>decide (r.aA=a)).map (·.nr)) []
  have h2:=abv (λr=>decide (r.aA=a)) rs;simp only[acP,abV,ab0] at h1;have:(fR rs a).length<=(rs.filter λr=>decide (r.aA=a)).length:=h1;omega
 obtain⟨iN,U,Q,W⟩:=Q;simp only[uO] at D;have wS:=zzU (G:=G) h.shut (fR rs a) U W I an;simp[w,By,Q];refine cP wS ?_;have y:=Pg (fR rs a);have J:∀n∈k8 (fR rs a),n∈fR rs a:=λn w=>OQ.1 w;obtain⟨d,t⟩:=bb (k8 (fR rs a));have GN:=Zs (o:=o) j ha F
 have l_:C6 (eW rs a) d+6*d.length<=Eu rs a:=by rw[t,y];exact aaD _
 obtain⟨K,i2,X⟩:=IM (o:=o) (R:=eW rs a) (l:=d) (c:=c) (λ_ _=>IN j) F;have L:=Zr X;rw[<-t] at y J |-;obtain⟨S,u⟩:∃S:Nat->List af×List (Nat×Nat),∀k,S k=bH (eW rs a) o (d.take k) c:=⟨_,λ_=>rfl⟩
 have BO:S 0=(c,[]):=by rw[u];rfl
 have yS:S d.length=bH (eW rs a) o d c:=by rw[u,abb]
 have Y:∀k,k<=d.length->(S k).2.length=k:=λk hk=>by
  obtain⟨_,_,h3⟩:=IM (o:=o) (R:=eW rs a) (l:=d.take k) (c:=c) (λ_ _=>IN j) F;rw[u,Zr h3,aas];omega
 have dY:=zrO h;have Z:EL []=[]:=rfl;have hX:∀(c':List af) (n m:Nat),H.length+1<=m->[some (ay.zone n)].map (aaw (ay.cl m))=[some (ay.zone n)]:=λ_ _ _ _=>rfl;have z6:∀(c':List af) (n:Nat),og (dN H b c'++[some (.zone n)]) b c' .no:=λc' n=>(h.set c').app (λm f=>rfl)
 have g:∀(c':List af) (n:Nat),(dN H b c'++[some (ay.zone n)]).length=H.length+1:=λc' n=>by simp
 have fM:∀(c':List af) (n:Nat),ak (H.length+1) (dN H b c'++[some (.zone n)])=dN H b c'++[some (.zone n)]:=λc' n=>by have:=(z6 c' n).shut.self;rwa[g] at this
 have Jh:∀(c':List af) (n:Nat) (r:ae),ak (H.length+1) (dN H b c'++some (.zone n)::r)=dN H b c'++[some (.zone n)]:=λc' n r=>by
  have:=(z6 c' n).shut.back r;rw[g,abm] at this;exact this
 have hh:=h.ne f;have hj:=h.ne P;have hq:=h.ne D
 have hr:mo≠b:=by intro e;rw[e,h.hb] at E;simp[oT] at E
 have hs:pm<H.length:=(aaf.1 f).1;have ht:po<H.length:=(aaf.1 P).1;have hu:px<H.length:=(aaf.1 D).1;have hv:mo<H.length:=(aaf.1 E).1;have z:(pm<H.length+1)=True:=ah7;have A:(po<H.length+1)=True:=ah7;have B:(px<H.length+1)=True:=ah7;have hw:(H.length+1<=pm)=False:=ah8;have hy:(H.length+1<=po)=False:=ah8;have hz:(H.length+1<=px)=False:=ah8
 have p:∀(c':List af) (r:ae),(dN H b c'++r)[pm]?=some (some (.cells [.ptr b 0])):=λc' r=>by rw[aah (by simpa using hs),GL hh];exact f
 have hB:∀(c':List af) (r:ae),(dN H b c'++r)[po]?=some (some (.cells [.mp mo])):=λc' r=>by rw[aah (by simpa using ht),GL hj];exact P
 have C:∀(c':List af) (r:ae),(dN H b c'++r)[px]?=some (some (.cells [.int .i64 o])):=λc' r=>by rw[aah (by simpa using hu),GL hq];exact D
 have hC:∀(c':List af) (r:ae),(dN H b c'++r)[mo]?=some (some (.map i)):=λc' r=>by rw[aah (by simpa using hv),GL hr];exact E
 have gk:∀(c':List af) (r:ae) (k:Nat),(dN H b c'++r)[H.length+k]?=r[k]?:=λc' r k=>by rw[aaj ir,rQ];congr 1;omega
 have zZ:∀(c':List af) (r:ae),(dN H b c'++r)[H.length]?=r[0]?:=λc' r=>gk c' r 0
 have BW:∀(c':List af) (r:ae) (x:Option ay),(dN H b c'++r).set H.length x=dN H b c'++r.set 0 x:=λc' r x=>by rw[aau _ _ ir,rQ,abD]
 have hD:ak (H.length+1) (H++[some (.zone 0)])=H++[some (.zone 0)]:=by have:=fM c 0;rwa[dY] at this
 have dG:∀(c':List af) (r:ae),ak H.length (dN H b c'++r)=dN H b c':=λc' r=>by have:=(yW (b:=b) h.shut c').back r;rwa[rQ] at this
 simp;refine aO d.length (λk=>[(0,.int .u32 a),(2,.ptr pm 0),(3,.ptr po 0),(4,.ptr px 0),(7,.vs (EL (S k).2) (.own H.length)),(13,.vs (aq .u32 d) .no),(14,.int .i64 d.length),(15,.int .i64 k)]) (λk=>dN H b (S k).1++[some (.zone k)]) (λ_=>True) ?_ ?_
 .simp[av,BO,dY,Z,z,A,B,hD]
 intro k hk _
 by_cases M:k<d.length
 .obtain⟨x,sD⟩:=bb (d[k])
  have N:d[k]?=some x:=by rw[aae M,sD]
  have z5:(aq .u32 d)[k]?=some [.int .u32 x]:=by simp[N]
  have yr:(aq .u32 d)[k]'(by simpa using M)=[.int .u32 x]:=by rw[aae (by simpa using M)] at z5;exact aa_.inj z5
  have q:S (k+1)=((oe (eW rs a x) ((S k).1,o)).1,(S k).2++[(x,(oe (eW rs a x) ((S k).1,o)).2)]):=by rw[u,u,aaK,N];exact zrQ _ _ _ _ _
  obtain⟨O,_,_⟩:=IM (o:=o) (R:=eW rs a) (l:=d.take k) (c:=c) (λ_ _=>IN j) F;rw[<-u] at O;have xR:=Y k hk;have hI:=zoB (λn=>vk (eW rs a n)) d k x N;obtain⟨iO,hE,hF,hG⟩:=hO x (J x (aao N));obtain⟨⟨c1,hH⟩,pj⟩:=bb (S k);rw[<-pj] at q O xR |-;have gj:=O.grown.len;have lj:=O.jG;simp only[C6] at q gj lj xR l_;have wr:=zBJ (G:=G) ((h.set c1).app (R:=[some (.zone k),none]) (λm f=>rfl)) (eW rs a x) hE (λm f=>hG m (by simp at f;omega)) o (IN j) lj an
  rw[O7 (by simpa using T),Di] at wr
  have IU:cG [.int,.int] [.int .u32 a,.int .u32 x] [.int .u32 a,.int .u32 x]=some true:=by simp[cG,qP]
  simp(disch:=omega)[bC,z5];simp[p,hB,C,hC,hF,hw,hy,hz];refine cP wr ?_;have ju:((k+1)*16<=140737488355328)=True:=ah7;have eK:=zyn hH (x,(oe (eW rs a x) (c1,o)).2);simp only at eK;simp[TI,BW,xR,ju,eK,q,-aab];simp(disch:=omega)[av,Jh,z,A,B,bA,M,-aab]
  done
 .have:k=d.length:=an
  subst this;rw[yS]
  have wt:=zqI (G:=G) (o:=o) (bH (eW rs a) o d c).2.length (z6 (bH (eW rs a) o d c).1 d.length) (bH (eW rs a) o d c).2 (.own H.length) (λn w=>by simp at w;simp[Tk.cl];omega)
   (by intro e;rw[e] at L;simp at L;have:=Pg (fR rs a);rw[<-t] at this;exact I (abe.1 an)) (aaD _) i2
   (λe he=>OS j (a:=a) (J _ (by rw[<-X];exact aan.2 ⟨e,he,rfl⟩))) K.jG (by have:=K.grown.len;simp only at this;omega)
  rw[O7 (by simpa using T),Di] at wt
  have tl:=(Es (o:=o) _ (by intro e;rw[e] at L;simp at L;have:=Pg (fR rs a);rw[<-t] at this;exact I (abe.1 an)) (aaD _) i2
   (λe he=>OS j (a:=a) (J _ (by rw[<-X];exact aan.2 ⟨e,he,rfl⟩))) K.jG).grown.len
  have gi:=K.grown.len
  have hA:sV rs o a c=bx (bF (bH (eW rs a) o d c).2.length (bH (eW rs a) o d c).1 (bH (eW rs a) o d c).2 o).1 32 0:=by rw[t];rfl
  have my:0<d.length:=by have:=Pg (fR rs a);rw[<-t] at this;have:=abn.2 I;omega
  generalize bF (bH (eW rs a) o d c).2.length (bH (eW rs a) o d c).1 (bH (eW rs a) o d c).2 o=s2 at *;generalize bH (eW rs a) o d c=s1 at *;have wa:=LC (G:=G) ((h.set s2.1).app (R:=[some (.zone d.length)]) (λm f=>rfl)) 32 0 (.inr (.inr ⟨rfl,ah9,ah9⟩)) (by simp only at gi;omega);rw[O7 (by simpa using T),Di,<-hA] at wa;simp(disch:=omega)[p,C];refine cP wt ?_;simp(disch:=omega)[p]
  refine cP wa ?_;simp[dG]
  done
end
open Go Go.RowKit
variable {G:aL}
def zk4(l:List Ru)(r:Ru):eN (l++[r])=v7 (eN l) r.aA:=by simp[eN,zpW]
def Pj(l:List Ru)(r:Ru)(a:Nat):fR (l++[r]) a=if r.aA=a then v7 (fR l a) r.nr else fR l a:=by
 unfold fR;rw[acq,aap]
 by_cases h:r.aA=a
 .have e:[r].filter (λr=>decide (r.aA=a))=[r]:=by simp[h]
  rw[e,if_pos h];simp[zpW]
 .have e:[r].filter (λr=>decide (r.aA=a))=[]:=by simp[h]
  rw[e,if_neg h];simp
def LF(l:List Ru)(r:Ru)(a n:Nat):eW (l++[r]) a n=if r.aA=a/\r.nr=n then eW l a n++[r] else eW l a n:=by
 unfold eW;rw[acq]
 by_cases h:r.aA=a/\r.nr=n
 .have e:[r].filter (λr=>decide (r.aA=a/\r.nr=n))=[r]:=by simp[h]
  rw[e,if_pos h]
 .have e:[r].filter (λr=>decide (r.aA=a/\r.nr=n))=[]:=by rw[acD,if_neg (by simpa using h)];rfl
  rw[e,if_neg h];simp
def TK{l:List Ru}{a:Nat}:a∈eN l↔∃r∈l,r.aA=a:=by rw[eN,C5,aan]
def TM{l:List Ru}{a n:Nat}:n∈fR l a↔∃r∈l,r.aA=a/\r.nr=n:=by
 rw[fR,C5,aan];constructor
 .rintro⟨r,b,h⟩;rw[acQ] at b;exact⟨r,b.1,by simpa using b.2,h⟩
 .rintro⟨r,b,c,d⟩;exact⟨r,acQ.2 ⟨b,by simpa using c⟩,d⟩
abbrev EN:=Nat×List Nat×Nat
abbrev EO:=(Nat×Nat)×List Ru×Nat
structure kP (l:List Ru) (of:List EO) (dI:List EN) (ms:List Nat) (Z:ae):Prop where
 tQ:ms=eN l
 nk:dI.map (·.1)=eN l
 nv:∀e∈dI,e.2.1=fR l e.1
 ok:(of.map (·.1)).Nodup
 om:∀k,k∈of.map (·.1)↔∃r∈l,(r.aA,r.nr)=k
 ov:∀e∈of,e.2.1=eW l e.1.1 e.1.2
 nz:∀e∈dI,Z[e.2.2]?=some (some (.zone e.2.1.length))
 oz:∀e∈of,Z[e.2.2]?=some (some (.zone e.2.1.length))
 dz:(dI.map (·.2.2)++of.map (·.2.2)).Nodup
 cz:∀n,Z.map (aaw (ay.cl n))=Z
def oU{α:Type}{l:List α}{j:Nat}{a e:α}(h:e∈l.set j a):e=a\/∃i,i≠j/\l[i]?=some e:=by
 obtain⟨i,hi⟩:=abd h;rw[ab4] at hi
 by_cases b:j=i
 .rw[if_pos b] at hi;split at hi
  .left;exact(aa_.inj hi).symm
  .cases hi
 .rw[if_neg b] at hi;exact .inr ⟨i,Ne.symm b,hi⟩
def TO{α β:Type}(f:α->β){l:List α}{j:Nat}{a b:α}(h:l[j]?=some a)(d:f b=f a):(l.set j b).map f=l.map f:=by
 apply acs;intro i;simp only[abx,ab4]
 by_cases c:j=i
 .subst c;rw[if_pos rfl,h];have:=(aaf.1 h).1;rw[if_pos this];simp[d]
 .rw[if_neg c]
def LG{α β:Type}{f:α->β}{l:List α}{i j:Nat}{a b:α}(c:(l.map f).Nodup)(hi:l[i]?=some a)(d:l[j]?=some b)(h:i≠j):f a≠f b:=by intro e;have g:=(aaf.1 hi).1;refine h ((List.getElem?_inj (l:=l.map f) (by simpa using g) c).1 ?_);rw[abx,abx,hi,d,acR,acR,e]
def TP{Z r:ae}{z:Nat}{x:Option ay}(h:Z[z]?=some x):(Z++r)[z]?=some x:=by rw[aah (aaf.1 h).1];exact h
def zIn{Z r:ae}(h:∀n,Z.map (aaw (ay.cl n))=Z)(a:∀n,r.map (aaw (ay.cl n))=r):∀n,(Z++r).map (aaw (ay.cl n))=Z++r:=λn=>by rw[aap,h,a]
def zBP{Z:ae}{z m:Nat}(h:∀n,Z.map (aaw (ay.cl n))=Z):∀n,(Z.set z (some (.zone m))).map (aaw (ay.cl n))=Z.set z (some (.zone m)):=λn=>by rw[Ep,h];rfl
section
variable {l:List Ru} {of:List EO} {dI:List EN} {ms:List Nat} {Z R:ae} {r:Ru}
def kP.qk(h:kP l of dI ms Z){e:EO}(a:e∈of):e.2.2<Z.length:=(aaf.1 (h.oz e a)).1
def kP.qm(h:kP l of dI ms Z){e:EN}(a:e∈dI):e.2.2<Z.length:=(aaf.1 (h.nz e a)).1
def kP.more(h:kP l of dI ms Z)(b:∀n,R.map (aaw (ay.cl n))=R):kP l of dI ms (Z++R) :=
 ⟨h.tQ,h.nk,h.nv,h.ok,h.om,h.ov,λe a=>TP (h.nz e a),λe a=>TP (h.oz e a),h.dz,zIn h.cz b⟩
def kP.aax(h:kP l of dI ms Z){j z:Nat}{d:List Ru}(f:of[j]?=some ((r.aA,r.nr),d,z)):kP (l++[r]) (of.set j ((r.aA,r.nr),d++[r],z)) dI ms (Z.set z (some (.zone (d.length+1)))):=by
 have m:=aao f;obtain⟨o,p,n⟩:=(h.om (r.aA,r.nr)).1 (aan.2 ⟨_,m,rfl⟩);simp only[adu.injEq] at n;have u:r.aA∈eN l:=TK.2 ⟨o,p,n.1⟩;have v:r.nr∈fR l r.aA:=TM.2 ⟨o,p,n⟩
 have s:eN (l++[r])=eN l:=by rw[zk4,v7,if_pos u]
 have w:∀a,fR (l++[r]) a=fR l a:=λa=>by
  rw[Pj];split
  .rename_i e;subst e;rw[v7,if_pos v]
  .rfl
 have hd:=h.dz;rw[aa1] at hd;obtain⟨D,y,A⟩:=hd;have B:=h.qk m
 have t:(of.set j ((r.aA,r.nr),d++[r],z)).map (·.1)=of.map (·.1):=TO (·.1) f (by rfl)
 have C:(of.set j ((r.aA,r.nr),d++[r],z)).map (·.2.2)=of.map (·.2.2):=TO (·.2.2) f (by rfl)
 refine⟨by rw[s];exact h.tQ,by rw[s];exact h.nk,λe b=>by rw[w];exact h.nv e b,?_,λk=>?_,λe b=>?_,λe b=>?_,λe b=>?_,?_,zBP h.cz⟩
 .rw[t];exact h.ok
 .rw[t,h.om];constructor
  .rintro⟨x,c,e⟩;exact⟨x,by simp[c],e⟩
  .rintro⟨x,c,e⟩
   rcases aaq.1 c with c|c
   .exact⟨x,c,e⟩
   .rw[aaH] at c;subst c;exact⟨o,p,by rw[<-e];simp[n]⟩
 .rcases oU b with rfl|⟨i,hi,g⟩
  .simp only;rw[LF,if_pos ⟨rfl,rfl⟩,<-h.ov _ m]
  .have:=LG h.ok g f hi;rw[LF,if_neg (λq=>this (ack q.1.symm q.2.symm))];exact h.ov e (aao g)
 .have:e.2.2≠z:=A _ (aan.2 ⟨e,b,rfl⟩) _ (aan.2 ⟨_,m,rfl⟩);rw[aaA (Ne.symm this)];exact h.nz e b
 .rcases oU b with rfl|⟨i,hi,g⟩
  .simp only;rw[aaG B];simp
  .have:=LG y g f hi;rw[aaA (Ne.symm this)];exact h.oz e (aao g)
 .rw[C];exact h.dz
def kP.aay(h:kP l of dI ms Z)(o:(r.aA,r.nr)∉of.map (·.1)){j z m:Nat}{b:List Nat}(c:dI[j]?=some (r.aA,b,z))(t:Z[m]?=some (some (.zone 1)))(n:m∉dI.map (·.2.2)++of.map (·.2.2)) :
  kP (l++[r]) (of++[((r.aA,r.nr),[r],m)]) (dI.set j (r.aA,b++[r.nr],z)) ms (Z.set z (some (.zone (b.length+1)))):=by
 have d:=aao c
 have u:r.aA∈eN l:=by rw[<-h.nk];exact aan.2 ⟨_,d,rfl⟩
 have p:r.nr∉fR l r.aA:=λv=>by
  obtain⟨x,a,e⟩:=TM.1 v;exact o ((h.om _).2 ⟨x,a,ack e.1 e.2⟩)
 have w:eW l r.aA r.nr=[]:=Zt p
 have s:eN (l++[r])=eN l:=by rw[zk4,v7,if_pos u]
 have hd:=h.dz;rw[aa1] at hd;obtain⟨A,H,B⟩:=hd;rw[aaq,not_or] at n;have C:=h.qm d
 have D:(dI.set j (r.aA,b++[r.nr],z)).map (·.1)=dI.map (·.1):=TO (·.1) c (by rfl)
 have E:(dI.set j (r.aA,b++[r.nr],z)).map (·.2.2)=dI.map (·.2.2):=TO (·.2.2) c (by rfl)
 have F:m≠z:=λe=>n.1 (by rw[e];exact aan.2 ⟨_,d,rfl⟩);refine⟨by rw[s];exact h.tQ,by rw[D,s];exact h.nk,λe he=>?_,?_,λk=>?_,λe he=>?_,λe he=>?_,λe he=>?_,?_,zBP h.cz⟩
 .rcases oU he with rfl|⟨i,hi,f⟩
  .simp only;rw[Pj,if_pos rfl,v7,if_neg p,<-h.nv _ d]
  .have G:(dI.map (·.1)).Nodup:=by rw[h.nk];exact Lm _
   have:=LG G f c hi;rw[Pj,if_neg (Ne.symm this)];exact h.nv e (aao f)
 .rw[aap,aa1];exact⟨h.ok,ir,λx a y g e=>o (by simp at g;rw[e,g] at a;exact a)⟩
 .rw[aap,aaq,h.om];constructor
  .rintro(⟨x,a,e⟩|a)
   .exact⟨x,by simp[a],e⟩
   .simp at a;exact⟨r,ir,a.symm⟩
  .rintro⟨x,a,e⟩
   rcases aaq.1 a with a|a
   .exact .inl ⟨x,a,e⟩
   .rw[aaH] at a;subst a;exact .inr (by simp[<-e])
 .rcases aaq.1 he with he|he
  .have:e.1≠(r.aA,r.nr):=λq=>o (by rw[<-q];exact aan.2 ⟨e,he,rfl⟩);rw[LF,if_neg (λq=>this (ack q.1.symm q.2.symm))];exact h.ov e he
  .rw[aaH] at he;subst he;simp only;rw[LF,if_pos ⟨rfl,rfl⟩,w];rfl
 .rcases oU he with rfl|⟨i,hi,f⟩
  .simp only;rw[aaG C];simp
  .have:=LG A f c hi;rw[aaA (Ne.symm this)];exact h.nz e (aao f)
 .rcases aaq.1 he with he|he
  .have:z≠e.2.2:=B _ (aan.2 ⟨_,d,rfl⟩) _ (aan.2 ⟨e,he,rfl⟩);rw[aaA this];exact h.oz e he
  .rw[aaH] at he;subst he;simp only;rw[aaA F.symm];exact t
 .rw[E,aap,<-abm,aa1]
  exact⟨h.dz,ir,λx a y g e=>by
   simp at g;rw[e,g] at a
   rcases aaq.1 a with a|a
   .exact n.1 a
   .exact n.2 a⟩
def kP.aaz(h:kP l of dI ms Z)(c:r.aA∉dI.map (·.1)){z d:Nat}(o:Z[z]?=some (some (.zone 1)))(p:Z[d]?=some (some (.zone 1)))(f:z∉dI.map (·.2.2)++of.map (·.2.2))(g:d∉dI.map (·.2.2)++of.map (·.2.2))(s:z≠d) :
  kP (l++[r]) (of++[((r.aA,r.nr),[r],d)]) (dI++[(r.aA,[r.nr],z)]) (ms++[r.aA]) Z:=by
 rw[h.nk] at c
 have i:(r.aA,r.nr)∉of.map (·.1):=λt=>by
  obtain⟨x,a,e⟩:=(h.om _).1 t;exact c (TK.2 ⟨x,a,(adu.inj e).1⟩)
 have j:fR l r.aA=[]:=by rw[List.eq_nil_iff_forall_not_mem];intro n u;obtain⟨x,a,e⟩:=TM.1 u;exact c (TK.2 ⟨x,a,e.1⟩)
 have v:eW l r.aA r.nr=[]:=Zt (by rw[j];simp)
 have m:eN (l++[r])=eN l++[r.aA]:=by rw[zk4,v7,if_neg c]
 have hd:=h.dz;rw[aa1] at hd;obtain⟨w,A,B⟩:=hd;rw[aaq,not_or] at g f;refine⟨by rw[m,h.tQ],by rw[aap,h.nk,m];rfl,λe he=>?_,?_,λk=>?_,λe he=>?_,λe he=>?_,λe he=>?_,?_,h.cz⟩
 .rcases aaq.1 he with he|he
  .have:r.aA≠e.1:=λq=>c (by rw[q,<-h.nk];exact aan.2 ⟨e,he,rfl⟩);rw[Pj,if_neg this];exact h.nv e he
  .rw[aaH] at he;subst he;simp only;rw[Pj,if_pos rfl,j];rfl
 .rw[aap,aa1];exact⟨h.ok,ir,λx a y b e=>i (by simp at b;rw[e,b] at a;exact a)⟩
 .rw[aap,aaq,h.om];constructor
  .rintro(⟨x,a,e⟩|a)
   .exact⟨x,by simp[a],e⟩
   .simp at a;exact⟨r,ir,a.symm⟩
  .rintro⟨x,a,e⟩
   rcases aaq.1 a with a|a
   .exact .inl ⟨x,a,e⟩
   .rw[aaH] at a;subst a;exact .inr (by simp[<-e])
 .rcases aaq.1 he with he|he
  .have:e.1≠(r.aA,r.nr):=λq=>i (by rw[<-q];exact aan.2 ⟨e,he,rfl⟩);rw[LF,if_neg (λq=>this (ack q.1.symm q.2.symm))];exact h.ov e he
  .rw[aaH] at he;subst he;simp only;rw[LF,if_pos ⟨rfl,rfl⟩,v];rfl
 .rcases aaq.1 he with he|he
  .exact h.nz e he
  .rw[aaH] at he;subst he;exact o
 .rcases aaq.1 he with he|he
  .exact h.oz e he
  .rw[aaH] at he;subst he;exact p
 .rw[aap,aap,aa1];refine⟨?_,?_,?_⟩
  .rw[aa1];exact⟨w,ir,λx a y b e=>by simp at b;rw[e,b] at a;exact f.1 a⟩
  .rw[aa1];exact⟨A,ir,λx a y b e=>by simp at b;rw[e,b] at a;exact g.2 a⟩
  .intro x a y b e
   rcases aaq.1 a with a|a<;>rcases aaq.1 b with b|b
   .exact B x a y b e
   .simp at b;rw[e,b] at a;exact g.1 a
   .simp at a;rw[<-e,a] at b;exact f.2 b
   .simp at a b;rw[a,b] at e;exact s e
end
open Go Go.RowKit
variable {G:aL}
def NxK{S:Type}(m:S->Nat)(E:S->List (Nat×V))(B:S->ae)(P:S->Prop)(l:List Nat)(k:Nat)(s:S)(a:Env)(H1:ae):Prop :=
 ∃s' kk,m s'<m s/\P s'/\k<=kk/\kk<=H1.length/\(pb l a).cl kk=il (E s')/\ak kk H1=B s'
def TQ{S:Type}(G:aL)(K:List Kt)(Q:Ex->Env->ae->Prop)(l:List Nat)(k:Nat)(m:S->Nat)(E:S->List (Nat×V))(B:S->ae)(P:S->Prop)(s:S)(x:Ex)(a:Env)(H1:ae):Prop :=
 match x with
 | .nx=>NxK m E B P l k s a H1
 | x=>Wr G x K a H1 Q
section
variable {K:List Kt} {Q:Ex->Env->ae->Prop} {e:Env} {H:ae} {l:List Nat} {k:Nat} {S:Type} {m:S->Nat} {E:S->List (Nat×V)} {B:S->ae} {P:S->Prop} {s:S}
@[simp] theorem aaB:TQ G K Q l k m E B P s .nx e H=NxK m E B P l k s e H:=rfl
@[simp] theorem zOb (i:Nat):TQ G K Q l k m E B P s (.exit i) e H=Wr G (.exit i) K e H Q:=rfl
@[simp] theorem zOn:TQ G K Q l k m E B P s .ret e H=Wr G .ret K e H Q:=rfl
theorem zEb{c:bg}(m:S->Nat)(E:S->List (Nat×V))(B:S->ae)(P:S->Prop)(a:S)
  (b:P a/\(pb l e).cl H.length=il (E a)/\ak H.length H=B a)
  (f:∀s,P s->W G c [] (il (E s)) (B s) (TQ G K Q l H.length m E B P s)):W G (.loop l c) K e H Q:=by
 refine zF4 (λk e H=>∃s,k=m s/\P s/\e=il (E s)/\H=B s) (m a) ⟨a,rfl,b.1,b.2.1,b.2.2⟩ ?_;rintro k e' H' ⟨s,rfl,g,rfl,rfl⟩;obtain⟨x,h,H1,i,d⟩:=f s g;refine⟨x,h,H1,i,?_⟩
 cases x with
 | nx=>obtain⟨s',kk,j,n,o,p,q,r⟩:=d;exact⟨m s',kk,j,o,p,s',rfl,n,q,r⟩
 | exit id=>exact d
 | ret=>exact d
end
def vN(e:EN):V×V:=(.int .u32 e.1,.vs (aq .u32 e.2.1) (.own (e.2.2+9)))
def vO(e:EO):V×V:=(.agg [.int .u32 e.1.1,.int .u32 e.1.2],.vs (RL e.2.1) (.own (e.2.2+9)))
def LH(p:Po)(c:List af)(of dI:List (V×V))(m:Nat)(Z:ae):ae :=
 [some (.cells p.cs),some (oT c .no),some (.cells [.ptr 1 0]),some (.cells [.int .i64 1]),some (.map of),some (.cells [.mp 4]),some (.map dI),some (.cells [.mp 6]),some (.zone m)]++Z
section
variable {p:Po} {c:List af} {of dI:List (V×V)} {m:Nat} {Z:ae}
def tS:(LH p c of dI m Z).length=Z.length+9:=by simp[LH]
def GQ(r:ae):LH p c of dI m Z++r=LH p c of dI m (Z++r):=by simp[LH]
def Pk:(LH p c of dI m Z)[1]?=some (some (.cells [.vs (IL c) .no,.int .i64 0])):=rfl
def B6:(LH p c of dI m Z)[2]?=some (some (.cells [.ptr 1 0])):=rfl
def Pl:(LH p c of dI m Z)[3]?=some (some (.cells [.int .i64 1])):=rfl
def EP:(LH p c of dI m Z)[4]?=some (some (.map of)):=rfl
def ER:(LH p c of dI m Z)[5]?=some (some (.cells [.mp 4])):=rfl
def Jj:(LH p c of dI m Z)[6]?=some (some (.map dI)):=rfl
def Jk:(LH p c of dI m Z)[7]?=some (some (.cells [.mp 6])):=rfl
def aaC:(LH p c of dI m Z)[8]?=some (some (.zone m)):=rfl
def z7(z:Nat):(LH p c of dI m Z)[z+9]?=Z[z]?:=by rw[LH,aaj ir];simp
def zzV(a:List (V×V)):(LH p c of dI m Z).set 4 (some (.map a))=LH p c a dI m Z:=rfl
def zFA(a:List (V×V)):(LH p c of dI m Z).set 6 (some (.map a))=LH p c of a m Z:=rfl
def zNo(a:Nat):(LH p c of dI m Z).set 8 (some (.zone a))=LH p c of dI a Z:=rfl
def LI(z:Nat)(x:Option ay):(LH p c of dI m Z).set (z+9) x=LH p c of dI m (Z.set z x):=by rw[LH,aau _ _ ir];simp[LH]
end
section
variable {p:Po} {c:List af} {of:List EO} {dI:List EN} {m:Nat} {Z:ae}
def zwf(n:Nat)(r:Ru):aZ n r.cs=r.cs:=by rw[g9];simp[Ru.cs,V.cl,Tk.cl]
def zsO(b:∀n,Z.map (aaw (ay.cl n))=Z)(d:∀e∈of,e.2.2<Z.length)(f:∀e∈dI,e.2.2<Z.length):iq (LH p c (of.map vO) (dI.map vN) m Z):=by
 intro n g;rw[tS] at g
 have h:(of.map vO).map (λq=>(q.1.cl n,q.2.cl n))=of.map vO:=by rw[acf];refine acg λe a=>?_;have:=d e a;simp[vO,V.cl,aZ,Tk.cl,show e.2.2+9<n by omega]
 have i:(dI.map vN).map (λq=>(q.1.cl n,q.2.cl n))=dI.map vN:=by rw[acf];refine acg λe a=>?_;have:=f e a;simp[vN,V.cl,Tk.cl,show e.2.2+9<n by omega]
 unfold LH;rw[aap,b]
 congr 1
 simp[oT,ay.cl,Po.cs,aZ,V.cl,Tk.cl,show 1<n by omega,show 4<n by omega,show 6<n by omega];exact⟨by simpa using h,by simpa using i⟩
def zsP{ks:Ky}{k:V}:∀{es:List (V×V)} (i:Nat),(∀p∈es,ka ks k p.1=some false)->kc ks k es i=some none
 | [],_,_=>rfl
 | q::es,i,h=>by
  simp only[kc,h q ir];exact zsP (i+1) λp a=>h p (by simp[a])
def zsQ{ks:Ky}{k:V}:∀{es:List (V×V)} (i j:Nat) {q:V×V},es[j]?=some q->ka ks k q.1=some true->(∀a<j,∀p,es[a]?=some p->ka ks k p.1=some false)->kc ks k es i=some (some (i+j,q.2))
 | [],_,_,_,h,_,_=>by simp at h
 | x::es,i,0,q,h,b,_=>by
  simp at h;subst h
  simp only[kc,b,ac4]
 | x::es,i,j+1,q,h,b,c=>by
  have d:=c 0 an x rfl;simp only[kc,d];have:=zsQ (i+1) j (q:=q) (by simpa using h) b (λa f p e=>c (a+1) an p (by simpa using e));rw[this,show i+1+j=i+(j+1) by omega]
def ES(a b:Nat):ka (.sc .int) (.int .u32 a) (.int .u32 b)=some (decide (a=b)):=by simp[ka,qP];rw[aba];simp
def ET(a n b k:Nat):ka (.row [.int,.int]) (.agg [.int .u32 a,.int .u32 n]) (.agg [.int .u32 b,.int .u32 k])=some (decide (a=b/\n=k)):=by simp[ka,cG,qP];rw[aba];simp
def zEc{a:Nat}(h:a∉dI.map (·.1)):kc (.sc .int) (.int .u32 a) (dI.map vN) 0=some none:=by refine zsP 0 λq b=>?_;obtain⟨e,c,rfl⟩:=aan.1 b;rw[vN,ES,decide_eq_false];exact λd=>h (d▸aan.2 ⟨e,c,rfl⟩)
def zFB{j a z:Nat}{l:List Nat}(c:(dI.map (·.1)).Nodup)(h:dI[j]?=some (a,l,z)):kc (.sc .int) (.int .u32 a) (dI.map vN) 0=some (some (j,.vs (aq .u32 l) (.own (z+9)))):=by
 have:=zsQ (ks:=.sc .int) (k:=.int .u32 a) (es:=dI.map vN) 0 j (q:=vN (a,l,z)) (by simp[h]) (by rw[vN,ES];simp) (λg i q b=>by
  rw[abx,ab7] at b;obtain⟨e,d,rfl⟩:=b;rw[vN,ES,decide_eq_false]
  exact λf=>LG c d h an f.symm)
 rw[this,ab0];rfl
def zEd{a n:Nat}(h:(a,n)∉of.map (·.1)):kc (.row [.int,.int]) (.agg [.int .u32 a,.int .u32 n]) (of.map vO) 0=some none:=by refine zsP 0 λq c=>?_;obtain⟨e,d,rfl⟩:=aan.1 c;rw[vO,ET,decide_eq_false];exact λb=>h (aan.2 ⟨e,d,ack b.1.symm b.2.symm⟩)
def zFC{j a n z:Nat}{l:List Ru}(d:(of.map (·.1)).Nodup)(h:of[j]?=some ((a,n),l,z)):kc (.row [.int,.int]) (.agg [.int .u32 a,.int .u32 n]) (of.map vO) 0=some (some (j,.vs (RL l) (.own (z+9)))):=by
 have:=zsQ (ks:=.row [.int,.int]) (k:=.agg [.int .u32 a,.int .u32 n]) (es:=of.map vO) 0 j (q:=vO ((a,n),l,z)) (by simp[h]) (by rw[vO,ET];simp) (λg i q b=>by
  rw[abx,ab7] at b;obtain⟨e,f,rfl⟩:=b;rw[vO,ET,decide_eq_false]
  exact λc=>LG d f h an (ack c.1.symm c.2.symm))
 rw[this,ab0];rfl
end
open Go Go.RowKit
variable {G:aL}
def zzW(d:Da)(l:List Cd){k:Nat}{y:Cd}(h:l[k]?=some y):((l.take (k+1)).filter λx=>x.holds d).length=((l.take k).filter λx=>x.holds d).length+if y.holds d then 1 else 0:=by
 rw[aaK,h,acq,aaU];simp only[Option.toList_some,acD,List.filter_nil]
 split<;>simp
def zt7(d:Da):∀l:List Cd,((l.filter λx=>x.holds d).length==l.length)=Cd.oR d l
 | []=>rfl
 | x::l=>by
  have a:=zt7 d l;have b:=abv (λx=>Cd.holds x d) l
  have e:Cd.oR d (x::l)=(x.holds d&&Cd.oR d l):=by simp[Cd.oR]
  rw[e,acD,<-a];cases h:x.holds d
  .simp only[aaE,if_false,Bool.false_and,aa2];simp;omega
  .simp only[if_true,Bool.true_and,aa2];rw[aba];simp
def zGC[lE G][lG G](r:Ru)(v:r.conds.length<=maxLen)(w:∀x∈r.conds,x.ok)(d:Da)(hd:d.ok):FP G 437 [.agg r.cs,DV d] (.bool (fE d r)):=by
 refine bw lG.aga (aaa rfl) ?_
 have g:d.cs.length=9:=by simp[Da.cs,hd.2.2.2.1]
 have z:d.cs.take 9=d.cs:=aai an
 have H:(aZ 0 d.cs).map V.jA=d.cs:=by rw[g9];simp[Da.cs,ax,V.cl,V.jA,aaZ]
 have l:d.cs.map V.jA=d.cs:=by simp[Da.cs,ax,V.jA,aaZ]
 have h:∀n,aZ n d.cs=d.cs:=λn=>by rw[g9];simp[Da.cs,ax,V.cl,aaZ]
 have p:d.cs.take 1=[.int .u32 d.nr]:=rfl;have I:(d.cs.drop 1).take 1=[.int .u32 d.aA]:=rfl;have b:(d.cs.tail).take 1=[.int .u32 d.aA]:=rfl;unfold maxLen at v;obtain⟨N,i⟩:∃N:Nat->Nat,∀k,N k=((r.conds.take k).filter λx=>x.holds d).length:=⟨_,λ_=>rfl⟩
 have A:N 0=0:=by rw[i];rfl
 simp[Ru.cs,DV];refine aO r.conds.length (λk=>[(2,.ptr 0 0),(3,.ptr 1 0),(5,.int .i64 (N k:Nat)),(6,.int .i64 k)]) (λ_=>[some (.cells r.cs),some (.cells d.cs)]) (λ_=>True) ?_ ?_
 .simp[av,ak,Ru.cs,h,A]
 intro k J _
 by_cases f:k<r.conds.length
 .obtain⟨y,B⟩:=bb (r.conds[k])
  have m:r.conds[k]?=some y:=by rw[aae f,B]
  have j:=Mz m
  have C:(CL r.conds)[k]'(by simpa using f)=y.cs:=by rw[aae (by simpa using f)] at j;exact aa_.inj j
  have q:=zBl (G:=G) y (w y (aao m)) d hd;have a:=zzW d r.conds m;have s:=abv (λx=>Cd.holds x d) (r.conds.take k);rw[aas] at s;rw[<-i] at s a;rw[<-i] at a;simp only[Cd.cs,DV] at q j C;simp(disch:=omega)[bC,j,Ru.cs,g,z,l,h];refine aw q ?_
  cases t:y.holds d with
  | false =>
   rw[t] at a;simp only[aaE,if_false,ac4] at a
   simp(disch:=omega)[av,ak,bA,f,a,h,-aab]
  | true =>
   rw[t] at a;simp only[if_true] at a;simp(disch:=omega)[av,ak,bA,f,a,h,-aab]
 .have:k=r.conds.length:=an
  subst this;have D:=zt7 d r.conds
  have c:((N r.conds.length:Int)==(r.conds.length:Int))=Cd.oR d r.conds:=by rw[<-D,i,abb,aba];simp
  have E:((r.aA:Int)==(d.aA:Int))=decide (r.aA=d.aA):=by rw[aba];simp
  have F:((r.nr:Int)==(d.nr:Int))=decide (r.nr=d.nr):=by rw[aba];simp
  cases e:Cd.oR d r.conds with
  | false =>
   rw[e] at c
   simp(disch:=omega)[Ru.cs,c,fE,e]
  | true =>
   rw[e] at c
   by_cases o:r.aA=d.aA
   .by_cases u:r.nr=d.nr
    .simp(disch:=omega)[Ru.cs,c,p,b,o,u,fE,e,g]
    .simp(disch:=omega)[Ru.cs,c,p,b,F,o,u,fE,e,g]
   .simp(disch:=omega)[Ru.cs,c,b,E,o,fE,e,g]
def gB(d:Da):List Ru->Option Nat
 | []=>none
 | r::l=>if fE d r then some 0 else(gB d l).map (·+1)
def zmb(d:Da):∀l:List Ru,(l.find? (fE d))=(gB d l).bind λi=>l[i]?
 | []=>rfl
 | r::l=>by
  rw[List.find?_cons,gB,zmb d l];cases fE d r
  .simp only[aaE,if_false]
   cases gB d l<;>simp
  .simp
def zt8(d:Da):∀{l:List Ru} {i:Nat},gB d l=some i->i<l.length
 | [],_,h=>by simp[gB] at h
 | r::l,i,h=>by
  rw[gB] at h;split at h
  .simp at h;subst h;simp
  .cases a:gB d l with
   | none=>rw[a] at h;simp at h
   | some j =>
    have:=zt8 d a;rw[a] at h;simp at h;subst h;simp;omega
def EU(d:Da)(l:List Ru)(i:Nat):Int:=match gB d (l.drop i) with|some j=>((i+j:Nat):Int)|none=>-1
def zzX(d:Da){l:List Ru}{i:Nat}{r:Ru}(h:l[i]?=some r):EU d l i=if fE d r then(i:Int) else EU d l (i+1):=by
 obtain⟨a,b⟩:=aaf.1 h;unfold EU;rw[abA a,b,gB];cases fE d r
 .simp only[aaE,if_false]
  cases gB d (l.drop (i+1)) with
  | none=>rfl
  | some j=>simp;omega
 .simp
def zEe[lE G][lG G](p:Po)(s:p.rules.length<=maxLen)(u:∀r∈p.rules,r.conds.length<=maxLen/\∀x∈r.conds,x.ok)(d:Da)(hd:d.ok):FP G 438 [.agg p.cs,DV d] (.int .i64 (EU d p.rules 0)):=by
 refine bw lG.agb (aaa rfl) ?_
 have v:d.cs.length=9:=by simp[Da.cs,hd.2.2.2.1]
 have w:d.cs.take 9=d.cs:=aai an
 have H:(aZ 0 d.cs).map V.jA=d.cs:=by rw[g9];simp[Da.cs,ax,V.cl,V.jA,aaZ]
 have f:d.cs.map V.jA=d.cs:=by simp[Da.cs,ax,V.jA,aaZ]
 have b:∀n,aZ n d.cs=d.cs:=λn=>by rw[g9];simp[Da.cs,ax,V.cl,aaZ]
 unfold maxLen at s;obtain⟨N,c⟩:∃N:Nat->Int,∀k,N k=EU d p.rules (p.rules.length-k):=⟨_,λ_=>rfl⟩
 have z:N 0=-1:=by rw[c,ac7,EU,acA];rfl
 have A:N p.rules.length=EU d p.rules 0:=by rw[c,abD]
 have B:bO .i64 p.rules.length 1=(p.rules.length:Int)-1:=nW an an;simp[Po.cs,DV,B];refine aO p.rules.length (λk=>[(2,.ptr 0 0),(3,.ptr 1 0),(5,.int .i64 (N k)),(6,.int .i64 ((p.rules.length:Int)-1-k))]) (λ_=>[some (.cells p.cs),some (.cells d.cs)]) (λ_=>True) ?_ ?_
 .simp[av,ak,Po.cs,b,z]
 intro k I _
 by_cases i:k<p.rules.length
 .obtain⟨t,J⟩:=bb (p.rules.length-1-k)
  have g:t<p.rules.length:=an
  obtain⟨y,C⟩:=bb (p.rules[t])
  have h:p.rules[t]?=some y:=by rw[aae g,C]
  have e:=Ke h
  have D:(RL p.rules)[t]'(by simpa using g)=y.cs:=by rw[aae (by simpa using g)] at e;exact aa_.inj e
  have j:=u y (aao h);have l:=zGC (G:=G) y j.1 j.2 d hd
  have a:N (k+1)=if fE d y then(t:Int) else N k:=by rw[c,c,show p.rules.length-(k+1)=t by omega,zzX d h,show t+1=p.rules.length-k by omega]
  have E:(p.rules.length:Int)-1-k=(t:Int):=an
  have m:(p.rules.length:Int)-1-((k+1:Nat):Int)=(t:Int)-1:=an
  have o:bO .i64 t 1=(t:Int)-1:=nW an an;rw[E];simp only[Ru.cs,DV] at l e D;simp(disch:=omega)[e,Po.cs,v,w,f,b];refine aw l ?_
  cases q:fE d y with
  | false =>
   rw[q] at a;simp only[aaE,if_false] at a
   simp(disch:=omega)[av,ak,o,m,i,a,b,-aab]
  | true =>
   rw[q] at a;simp only[if_true] at a;simp(disch:=omega)[av,ak,o,m,i,a,b,-aab]
 .have:k=p.rules.length:=an
  subst this;have F:((p.rules.length:Int)<=(p.rules.length:Int)-1)=False:=ah8;simp(disch:=omega)[F,A,Po.cs]
def EW(d:Da)(p:Po):Nat:=((p.rules.find? (fE d)).map (·.act)).getD p.cN
def zEf[lE G][lG G](p:Po)(g:p.rules.length<=maxLen)(h:∀r∈p.rules,r.conds.length<=maxLen/\∀x∈r.conds,x.ok)(d:Da)(hd:d.ok):FP G 439 [.agg p.cs,DV d] (.int .u32 (EW d p:Nat)):=by
 refine bw lG.agc (aaa rfl) ?_
 have i:d.cs.length=9:=by simp[Da.cs,hd.2.2.2.1]
 have k:d.cs.take 9=d.cs:=aai an
 have l:(aZ 0 d.cs).map V.jA=d.cs:=by rw[g9];simp[Da.cs,ax,V.cl,V.jA,aaZ]
 have w:=zEe (G:=G) p g h d hd;simp only[Po.cs,DV] at w;simp[Po.cs,DV,i,k,l];refine aw w ?_
 have m:EU d p.rules 0=match gB d p.rules with|some j=>(j:Int)|none=>-1:=by unfold EU;rw[acj];cases gB d p.rules<;>simp
 rw[m]
 cases b:gB d p.rules with
 | none =>
  have:EW d p=p.cN:=by rw[EW,zmb,b];rfl
  simp[this]
 | some j =>
  have c:=zt8 d b;obtain⟨y,n⟩:=bb (p.rules[j])
  have f:p.rules[j]?=some y:=by rw[aae c,n]
  have a:=Ke f
  have o:(RL p.rules)[j]'(by simpa using c)=y.cs:=by rw[aae (by simpa using c)] at a;exact aa_.inj a
  have:EW d p=y.act:=by rw[EW,zmb,b];simp[f]
  have e:((j:Int)<0)=False:=ah8;simp only[Ru.cs] at a o;simp(disch:=omega)[this,e,a]
def Ru.wf(r:Ru):Prop:=r.conds.length<=maxLen/\(∀x∈r.conds,x.ok)/\r.aA<4294967296/\r.nr<4294967296/\r.act<4294967296
def Po.wf(p:Po):Prop:=p.rules.length<=maxLen/\(∀r∈p.rules,r.wf)/\p.cN<4294967296
def QV{p:Po}(h:p.wf)(a:yU p=true):p.df/\p.rules.length<=64/\∀r∈p.rules,r.conds.length<=4:=by simp only[yU,aaI,decide_eq_true_eq,ab9,jr] at a;obtain⟨⟨b,e⟩,d⟩:=a;exact⟨⟨λr a=>⟨λx c=>⟨(b r a).1.1 x c,(h.2.1 r a).2.1 x c⟩,(h.2.1 r a).2.2⟩,h.2.2⟩,d,λr a=>(b r a).2⟩
def zp3(rs:List Ru)(o:Nat)(a:Nat):∀(l:List Nat) (c:List af),jv rs o (l++[a]) c=(sV rs o a (jv rs o l c).1,(jv rs o l c).2++[(a,(sV rs o a (jv rs o l c).1).length)])
 | [],c=>rfl
 | m::l,c=>by
  have b:=zp3 rs o a l (sV rs o m c);simp only[aav,jv,b]
def zp4(x:Nat×Nat):∀(l:List (Nat×Nat)) (s:rO),dg (l++[x]) s=(gD (dg l s).1 21 x.1 x.2 (dg l s).2,(gD (dg l s).1 21 x.1 x.2 (dg l s).2).length)
 | [],s=>rfl
 | y::l,s=>by
  have a:=zp4 x l (gD s.1 21 y.1 y.2 s.2,(gD s.1 21 y.1 y.2 s.2).length);simp only[aav,dg,a]
structure Pm where
 i:Nat
 of:List EO
 dI:List EN
 ms:List Nat
 Z:ae
def zEg[fB G][bW G][kE G][aE G][bI G][eO G][dV G][di G][eC G][fk G](p:Po)(hp:p.wf) :
  FP G 428 [.agg p.cs] (.bc [FL (if yU p then kN p else []),.int .i64 (if yU p then 0 else 1)]):=by
 refine bw fk.af0 (aaa rfl) ?_;have wr:=zxx (G:=G) p hp.1 (λr t=>⟨(hp.2.1 r t).1,(hp.2.1 r t).2.2.2.2⟩) hp.2.2;simp only[Po.cs] at wr;simp[Po.cs];refine aw wr ?_
 cases t:yU p with
 | false=>simp[FL]
 | true =>
  obtain⟨K,hl,j4⟩:=QV hp t;have q_:og [some (.cells p.cs),some (oT [] .full),some (.cells [.ptr 1 0]),none] 1 [] .full:=⟨rfl,.inr rfl,by intro n hn;simp at hn;simp[oT,ay.cl,Po.cs,aZ,V.cl,Tk.cl,show 1<n by omega]⟩;have w0:=LC (G:=G) q_ 6 p.cN (.inr (.inl rfl)) ir;obtain⟨g,RB⟩:=bb (bx [] 6 p.cN)
  have hu:g.length=1:=by rw[RB];rfl
  rw[<-RB] at w0;rw[hu] at w0;simp only[oT,Po.cs,zHY] at w0;simp;refine cP w0 ?_;simp[dN,oT]
  have oE:(RL p.rules).length=p.rules.length:=by simp
  refine zEb (λs:Pm=>p.rules.length-s.i) (λs=>[(4,.ptr 2 0),(5,.ptr 3 0),(6,.ptr 5 0),(7,.ptr 7 0),(8,.vs (aq .u32 s.ms) (.own 8)),(31,.vs (RL p.rules) .no),(32,.int .i64 p.rules.length),(33,.int .i64 s.i)])
   (λs=>LH p g (s.of.map vO) (s.dI.map vN) s.ms.length s.Z) (λs=>s.i<=p.rules.length/\kP (p.rules.take s.i) s.of s.dI s.ms s.Z) ⟨0,[],[],[],[]⟩ ?_ ?_
  .refine⟨⟨ab5 _,⟨rfl,rfl,ir,ir,ir,ir,ir,ir,ir,λ_=>rfl⟩⟩,?_⟩;simp[av,ak,LH,oT,Po.cs]
   done
  rintro⟨i,of,dI,ms,Z⟩ ⟨hi,b⟩;simp only at hi b |-;have fM:∀r:ae,(∀n,r.map (aaw (ay.cl n))=r)->iq (LH p g (of.map vO) (dI.map vN) ms.length (Z++r)):=λr t=>zsO (b.more t).cz (λe d=>(b.more t).qk d) (λe d=>(b.more t).qm d)
  by_cases ah:i<p.rules.length
  .obtain⟨r,Nv⟩:=bb (p.rules[i])
   have hg:p.rules[i]?=some r:=by rw[aae ah,Nv]
   have L:=Ke hg
   have gh:(RL p.rules)[i]'(by simpa using ah)=r.cs:=by rw[aae (by simpa using ah)] at L;exact aa_.inj L
   have eI:p.rules.take (i+1)=p.rules.take i++[r]:=by rw[aaK,hg];rfl
   have A:∀(R:ae) (k:Nat),(Z++R)[Z.length+k]?=R[k]?:=λR k=>by rw[aaj an];congr 1;omega
   have X:∀(R:ae),(Z++R)[Z.length]?=R[0]?:=λR=>A R 0
   have sk:∀(R:ae) (k:Nat) (x:Option ay),(Z++R).set (Z.length+k) x=Z++R.set k x:=λR k x=>by rw[aau _ _ an];congr 2;omega
   have BW:∀(R:ae) (x:Option ay),(Z++R).set Z.length x=Z++R.set 0 x:=λR x=>sk R 0 x;simp only[Ru.cs] at L gh
   have Pn:∀a n,(eW (p.rules.take i) a n).length<=64:=λa n=>by have h1:=abv (λr:Ru=>decide (r.aA=a/\r.nr=n)) (p.rules.take i);have h2:=ach i p.rules;unfold eW;omega
   have hw:∀l:List Ru,(∀f∈RL l,f.length=4)=True:=λl=>eq_true (λf K=>by simp only[RL,aan] at K;obtain⟨x,_,rfl⟩:=K;rfl)
   have hy:∀l:List Ru,RL l++[[.int .u32 r.aA,.int .u32 r.nr,.vs (CL r.conds) .no,.int .u32 r.act]]=RL (l++[r]):=λl=>by simp[RL,Ru.cs]
   have im:=ET r.aA r.nr r.aA r.nr;simp only[and_self,decide_true] at im;have CC:=ES r.aA r.aA;simp only[decide_true] at CC
   have M:∀(Jl:List EO) (xS:List EN) (Y:List Nat) (D:ae) (F:Env) (H1:ae),kP (p.rules.take (i+1)) Jl xS Y D->H1=LH p g (Jl.map vO) (xS.map vN) Y.length D ->
     (pb [4,5,6,7,8,31,32,33] F).cl (D.length+9)=il [(4,.ptr 2 0),(5,.ptr 3 0),(6,.ptr 5 0),(7,.ptr 7 0),(8,.vs (aq .u32 Y) (.own 8)),(31,.vs (RL p.rules) .no),(32,.int .i64 p.rules.length),(33,.int .i64 (i+1:Nat))] ->
     NxK (λs:Pm=>p.rules.length-s.i) (λs=>[(4,.ptr 2 0),(5,.ptr 3 0),(6,.ptr 5 0),(7,.ptr 7 0),(8,.vs (aq .u32 s.ms) (.own 8)),(31,.vs (RL p.rules) .no),(32,.int .i64 p.rules.length),(33,.int .i64 s.i)])
      (λs=>LH p g (s.of.map vO) (s.dI.map vN) s.ms.length s.Z) (λs=>s.i<=p.rules.length/\kP (p.rules.take s.i) s.of s.dI s.ms s.Z) [4,5,6,7,8,31,32,33] 9 ⟨i,of,dI,ms,Z⟩ F H1:=by
    intro Jl xS Y D F H1 qS hH d;subst hH;have hs:=(zsO (p:=p) (c:=g) (m:=Y.length) qS.cz (λe d=>qS.qk d) (λe d=>qS.qm d)).self;rw[tS] at hs;exact⟨⟨i+1,Jl,xS,Y,D⟩,D.length+9,by simp only;omega,⟨ah,qS⟩,an,by rw[tS];exact aaD _,d,hs⟩
   simp(disch:=omega)[bC,gh,GQ,tS,z7,LI,A,X,sk,BW]
   by_cases jl:(r.aA,r.nr)∈of.map (·.1)
   .obtain⟨e,d,B⟩:=aan.1 jl;obtain⟨j,E⟩:=abd d;obtain⟨⟨ea,en⟩,w,z⟩:=e;simp only[adu.injEq] at B;obtain⟨rfl,rfl⟩:=B;have zB:=zFC b.ok E;have vX:=b.ov _ d;simp only at vX
    have hV:w.length<=64:=by rw[vX];exact Pn _ _
    have hA:(w.length==0)=false:=by
     obtain⟨x,hx,fz⟩:=(b.om (r.aA,r.nr)).1 jl
     have:x∈w:=by rw[vX,eW];exact acQ.2 ⟨hx,by simpa using fz⟩
     have:=List.length_pos_of_mem this;exact beq_false_of_ne an
    have Pp:((w.length:Int)==0)=false:=aG (by have:=ne_of_beq_false hA;omega);have hz:=b.oz _ d;simp only at hz;have N:=b.qk d;simp only at N;have gz:∀R:ae,(Z++R)[z]?=some (some (.zone w.length)):=λR=>TP hz;have sz:∀(R:ae) (x:Option ay),(Z++R).set z x=Z.set z x++R:=λR x=>abB _ _ N
    have hb:(of.map vO)[j]?=some (.agg [.int .u32 r.aA,.int .u32 r.nr],.vs (RL w) (.own (z+9))):=by rw[abx,E];rfl
    have F:(of.map vO).set j (.agg [.int .u32 r.aA,.int .u32 r.nr],.vs (RL w) (.own (z+9)))=of.map vO:=Eo hb
    have e2:(of.map vO).set j (.agg [.int .u32 r.aA,.int .u32 r.nr],.vs (RL (w++[r])) (.own (z+9)))=(of.set j ((r.aA,r.nr),w++[r],z)).map vO:=by rw[acE];rfl
    have O:((w.length+1)*40<=140737488355328)=True:=ah7;simp(disch:=omega)[ER,EP,GQ,tS,z7,LI,zzV,A,X,gz,sz,zB,Pp,F,e2,hb,O,hw,hy];refine M (of.set j ((r.aA,r.nr),w++[r],z)) dI ms (Z.set z (some (.zone (w.length+1)))++[some (.cells r.cs),some (.cells [.int .u32 r.aA,.int .u32 r.nr]),none]) _ _ ?_ ?_ ?_
    .rw[eI,<-sz];exact(b.more (R:=[some (.cells r.cs),some (.cells [.int .u32 r.aA,.int .u32 r.nr]),none]) (λn=>by simp[ay.cl,zwf,aZ,V.cl])).aax E
    .rw[acE];rfl
    .simp(disch:=omega)[av,gV,bA,-aab]
   .have zB:=zEd jl;have NR:(Z.length+2<=Z.length)=False:=ah8;have Pq:(Z.length+2<=Z.length+1)=False:=ah8;have R6:(Z.length+3<=Z.length)=False:=ah8;have hC:(Z.length+3<=Z.length+1)=False:=ah8
    have wM:(of.map vO++[(V.agg [.int .u32 r.aA,.int .u32 r.nr],V.vs [] .full)])[of.length]?=some (V.agg [.int .u32 r.aA,.int .u32 r.nr],V.vs [] .full):=by rw[aaj ir];simp
    have H:∀v,(of.map vO++[(V.agg [.int .u32 r.aA,.int .u32 r.nr],V.vs [] .full)]).set of.length (V.agg [.int .u32 r.aA,.int .u32 r.nr],v)=of.map vO++[(V.agg [.int .u32 r.aA,.int .u32 r.nr],v)]:=λv=>by rw[aau _ _ ir];simp
    by_cases Dl:r.aA∈dI.map (·.1)
    .obtain⟨e,d,B⟩:=aan.1 Dl;obtain⟨j,E⟩:=abd d;obtain⟨ea,I,z⟩:=e;simp only at B;subst B;have l8:=zFB (by rw[b.nk];exact Lm _) E;have P:=b.nv _ d;simp only at P
     have hD:((I.length:Int)==0)=false:=by
      have:r.aA∈eN (p.rules.take i):=by rw[<-b.nk];exact Dl
      have:=abn.2 (OR this);rw[<-P] at this;exact aG an
     have hW:I.length<=64:=by
      have h1:=OP (((p.rules.take i).filter λx=>decide (x.aA=r.aA)).map (·.nr)) []
      have h2:=abv (λx:Ru=>decide (x.aA=r.aA)) (p.rules.take i);have h3:=ach i p.rules;simp only[acP,abV,ab0] at h1
      have:I.length<=((p.rules.take i).filter λx=>decide (x.aA=r.aA)).length:=by rw[P];exact h1
      omega
     have hz:=b.nz _ d;simp only at hz;have N:=b.qm d;simp only at N;have gz:∀R:ae,(Z++R)[z]?=some (some (.zone I.length)):=λR=>TP hz;have sz:∀(R:ae) (x:Option ay),(Z++R).set z x=Z.set z x++R:=λR x=>abB _ _ N
     have hc:∀(x:Option ay) (R:ae) (k:Nat),(Z.set z x++R)[Z.length+k]?=R[k]?:=λx R k=>by rw[aaj ir,abt];congr 1;omega
     have hE:∀(x:Option ay) (R:ae),(Z.set z x++R)[Z.length]?=R[0]?:=λx R=>hc x R 0
     have hF:∀(y:Option ay) (R:ae) (k:Nat) (x:Option ay),(Z.set z y++R).set (Z.length+k) x=Z.set z y++R.set k x:=λy R k x=>by rw[aau _ _ ir,abt];congr 2;omega
     have O:((I.length+1)*4<=140737488355328)=True:=ah7
     have e3:(dI.map vN).set j (.int .u32 r.aA,.vs (aq .u32 (I++[r.nr])) (.own (z+9)))=(dI.set j (r.aA,I++[r.nr],z)).map vN:=by rw[acE];rfl
     simp(disch:=omega)[ER,EP,Jj,Jk,GQ,tS,z7,LI,zzV,zFA,A,X,gz,sz,hc,hE,hF,zB,l8,hD,wM,H,e3,O,NR,Pq,R6,hC]
     have EX:∀q∈dI.map (·.2.2)++of.map (·.2.2),q<Z.length:=by
      intro q C
      rcases aaq.1 C with C|C
      .obtain⟨e,d,rfl⟩:=aan.1 C;exact b.qm d
      .obtain⟨e,d,rfl⟩:=aan.1 C;exact b.qk d
     refine M (of++[((r.aA,r.nr),[r],Z.length+3)]) (dI.set j (r.aA,I++[r.nr],z)) ms (Z.set z (some (.zone (I.length+1)))++[some (.cells r.cs),some (.cells [.int .u32 r.aA,.int .u32 r.nr]),none,some (.zone 1)]) _ _ ?_ ?_ ?_
     .rw[eI,<-sz];exact(b.more (R:=[some (.cells r.cs),some (.cells [.int .u32 r.aA,.int .u32 r.nr]),none,some (.zone 1)]) (λn=>by simp[ay.cl,zwf,aZ,V.cl])).aay jl E (by rw[A];rfl) (λh=>by have:=EX _ h;omega)
     .rw[acE,aap];rfl
     .simp(disch:=omega)[av,gV,bA,-aab]
    .have l8:=zEc Dl
     have hX:ms.length<=64:=by have h1:=Zv (p.rules.take i);have h3:=ach i p.rules;rw[b.tQ];omega
     have O:((ms.length+1)*4<=140737488355328)=True:=ah7;have hG:(Z.length+4<=Z.length)=False:=ah8;have hI:(Z.length+4<=Z.length+1)=False:=ah8;simp(disch:=omega)[ER,EP,Jj,Jk,aaC,GQ,tS,z7,LI,zzV,zFA,zNo,A,X,sk,zB,l8,wM,H,O,NR,Pq,R6,hG,hI]
     have EX:∀q∈dI.map (·.2.2)++of.map (·.2.2),q<Z.length:=by
      intro q C
      rcases aaq.1 C with C|C
      .obtain⟨e,d,rfl⟩:=aan.1 C;exact b.qm d
      .obtain⟨e,d,rfl⟩:=aan.1 C;exact b.qk d
     refine M (of++[((r.aA,r.nr),[r],Z.length+4)]) (dI++[(r.aA,[r.nr],Z.length+3)]) (ms++[r.aA]) (Z++[some (.cells r.cs),some (.cells [.int .u32 r.aA,.int .u32 r.nr]),none,some (.zone 1),some (.zone 1)]) _ _ ?_ ?_ ?_
     .rw[eI];exact(b.more (R:=[some (.cells r.cs),some (.cells [.int .u32 r.aA,.int .u32 r.nr]),none,some (.zone 1),some (.zone 1)]) (λn=>by simp[ay.cl,zwf,aZ,V.cl])).aaz Dl (by rw[A];rfl) (by rw[A];rfl) (λh=>by have:=EX _ h;omega) (λh=>by have:=EX _ h;omega) an
     .rw[aap,aap,aaU];rfl
     .simp(disch:=omega)[av,gV,bA,-aab]
  .have jl:i=p.rules.length:=an
   subst jl;rw[abb] at b;have uw:=(fM [] (λ_=>rfl)).self;simp only[abu,tS] at uw;simp(disch:=omega)[tS,GQ];have l_:=Zw hl j4;unfold Ew at l_;have H:ms=eN p.rules:=b.tQ
   have hY:ms.length<=64:=by have:=Zv p.rules;rw[<-H] at this;omega
   obtain⟨S,hS⟩:∃S:Nat->List af×List (Nat×Nat),∀k,S k=jv p.rules 1 (ms.take k) g:=⟨_,λ_=>rfl⟩
   have BO:S 0=(g,[]):=by rw[hS];rfl
   have yS:S ms.length=jv p.rules 1 (eN p.rules) g:=by rw[hS,abb,H]
   have C7:1<=1/\1<=g.length:=⟨aaD _,an⟩
   have hh:∀k,Came g ((S k).1,1) (BP p.rules (ms.take k))/\kY (S k).1 (S k).2/\(S k).2.map (·.1)=ms.take k:=λk=>by
    rw[hS];exact Ln K.1 (λa ha=>by rw[H] at ha;exact aaQ ha) C7
   have Pr:∀(c':List af) (r:ae),(∀n,r.map (aaw (ay.cl n))=r)->iq (LH p c' (of.map vO) (dI.map vN) ms.length (Z++r)):=λc' r t=>zsO (b.more t).cz (λe d=>(b.more t).qk d) (λe d=>(b.more t).qm d);have Q:∀(c':List af) (r:ae),(∀n,r.map (aaw (ay.cl n))=r)->og (LH p c' (of.map vO) (dI.map vN) ms.length (Z++r)) 1 c' .no:=λc' r t=>⟨rfl,.inl rfl,Pr c' r t⟩;have b_:∀(c' c2:List af) (D:ae),dN (LH p c' (of.map vO) (dI.map vN) ms.length D) 1 c2=LH p c2 (of.map vO) (dI.map vN) ms.length D:=λc' c2 D=>rfl
   have A:∀(R:ae) (k:Nat),(Z++R)[Z.length+k]?=R[k]?:=λR k=>by rw[aaj an];congr 1;omega
   have X:∀(R:ae),(Z++R)[Z.length]?=R[0]?:=λR=>A R 0
   have BW:∀(R:ae) (x:Option ay),(Z++R).set Z.length x=Z++R.set 0 x:=λR x=>by rw[aau _ _ an,abD]
   have TS:∀(c':List af) (k:Nat) (r:ae),ak (Z.length+1+9) (LH p c' (of.map vO) (dI.map vN) ms.length (Z++some (.zone k)::r))=LH p c' (of.map vO) (dI.map vN) ms.length (Z++[some (.zone k)]):=λc' k r=>by
    have:=(Pr c' [some (.zone k)] (λ_=>rfl)).back r;rw[GQ,tS,aaU,abm] at this;exact this
   refine aO ms.length (λk=>[(4,.ptr 2 0),(5,.ptr 3 0),(12,.fn 425 [.ptr 7 0,.ptr 2 0,.ptr 5 0,.ptr 3 0]),(13,.vs (EL (S k).2) (.own (Z.length+9))),(79,.vs (aq .u32 ms) (.own 8)),(80,.int .i64 ms.length),(81,.int .i64 k)])
    (λk=>LH p (S k).1 (of.map vO) (dI.map vN) ms.length (Z++[some (.zone k)])) (λ_=>True) ?_ ?_
   .simp(disch:=omega)[av,gV,tS,BO,TS,show EL []=[] from rfl]
   intro k hk _
   by_cases o_:k<ms.length
   .obtain⟨a,hJ⟩:=bb (ms[k])
    have pz:ms[k]?=some a:=by rw[aae o_,hJ]
    have z5:(aq .u32 ms)[k]?=some [.int .u32 a]:=by simp[pz]
    have yr:(aq .u32 ms)[k]'(by simpa using o_)=[.int .u32 a]:=by rw[aae (by simpa using o_)] at z5;exact aa_.inj z5
    have ho:a∈eN p.rules:=by rw[<-H];exact aao pz
    have U:S (k+1)=(sV p.rules 1 a (S k).1,(S k).2++[(a,(sV p.rules 1 a (S k).1).length)]):=by rw[hS,hS,aaK,pz];exact zp3 _ _ _ _ _
    obtain⟨j1,j2,j3⟩:=hh k
    have xR:(S k).2.length=k:=by rw[<-acP (f:=(·.1)),j3,aas];omega
    have ht:=zoB (Eu p.rules) ms k a pz;rw[show eX (Eu p.rules) ms=BP p.rules (eN p.rules) by rw[H];rfl] at ht;have gj:=j1.grown.len;obtain⟨⟨c1,hK⟩,pj⟩:=bb (S k);rw[<-pj] at U gj j1 xR |-;simp only[BP] at U gj xR l_ ht
    have hL:∃j z:Nat,dI[j]?=some (a,fR p.rules a,z):=by
     have:a∈dI.map (·.1):=by rw[b.nk];exact ho
     obtain⟨e,d,B⟩:=aan.1 this;obtain⟨j,E⟩:=abd d;have hv:=b.nv e d;obtain⟨F,e2,e3⟩:=e;simp only at B hv;subst B;exact⟨j,e3,by rw[E,hv]⟩
    obtain⟨jn,zn,yO⟩:=hL;have hN:=b.qm (aao yO);simp only at hN
    have LK:zBM (dI.map vN) a (fR p.rules a) (LH p c1 (of.map vO) (dI.map vN) ms.length (Z++[some (.zone k),none])).length :=
     ⟨jn,.own (zn+9),zFB (by rw[b.nk];exact Lm _) yO,λm hm=>by rw[tS] at hm;simp at hm;simp[Tk.cl];omega⟩
    have js:∀n∈fR p.rules a,zBN (of.map vO) a n (eW p.rules a n) (LH p c1 (of.map vO) (dI.map vN) ms.length (Z++[some (.zone k),none])).length:=λn hn=>by
     have:(a,n)∈of.map (·.1):=(b.om _).2 (by obtain⟨x,hx,F,e2⟩:=TM.1 hn;exact⟨x,hx,ack F e2⟩)
     obtain⟨e,d,B⟩:=aan.1 this;obtain⟨j,E⟩:=abd d;have hv:=b.ov e d;have N:=b.qk d;obtain⟨F,e2,e3⟩:=e;simp only at B hv N;subst B;simp only at hv;subst hv;exact⟨j,.own (e3+9),zFC b.ok E,λm hm=>by rw[tS] at hm;simp at hm;simp[Tk.cl];omega⟩
    have wb:=zBO (G:=G) (rs:=p.rules) (a:=a) (o:=1) (Q c1 [some (.zone k),none] (λ_=>rfl)) (pn:=7) (pm:=2) (po:=5) (px:=3) (mn:=6) (mo:=4) Jk B6 ER Pl Jj EP LK js K.1 ho an ⟨aaD _,an⟩ an;rw[b_] at wb;obtain⟨r1,H2,hB,gI,hO⟩:=wb;have O:((k+1)*16<=140737488355328)=True:=ah7;have eK:=zyn hK (a,(sV p.rules 1 a c1).length);simp only at eK;simp(disch:=omega)[bC,z5,GQ,tS]
    refine kW (H1:=H2) (by simpa using hB) (λh=>by simp at h) ?_;rw[gI,hO];simp(disch:=omega)[TI,z7,LI,X,BW,xR,O,eK,av,gV,bA,U,TS,o_,-aab]
   .have CC:k=ms.length:=an
    subst CC;rw[yS]
    have Jn:ms.length=(jv p.rules 1 (eN p.rules) g).2.length:=by obtain⟨_,_,h3⟩:=hh ms.length;rw[yS,abb] at h3;have:=congrArg ab8 h3;simpa using this.symm
    obtain⟨q1,q2,q3⟩:=Ln (rs:=p.rules) (o:=1) K.1 (l:=eN p.rules) (c:=g) (λ_ h=>h) C7
    have Et:∀e∈(jv p.rules 1 (eN p.rules) g).2,e.1<4294967296:=by
     intro e d
     have:e.1∈eN p.rules:=by rw[<-q3];exact aan.2 ⟨e,d,rfl⟩
     obtain⟨r,t,h⟩:=TK.1 this;rw[<-h];exact(K.1 r t).2.1
    have hP:kN p=if(jv p.rules 1 (eN p.rules) g).2=[] then(dg (jv p.rules 1 (eN p.rules) g).2 ((jv p.rules 1 (eN p.rules) g).1,1)).1 else bx (dg (jv p.rules 1 (eN p.rules) g).2 ((jv p.rules 1 (eN p.rules) g).1,1)).1 32 4:=by rw[RB];rfl
    rw[hP];have gq:=q1.grown.len
    have hZ:(eN p.rules).length=ms.length:=by rw[H]
    obtain⟨⟨J,u⟩,hQ⟩:=bb (jv p.rules 1 (eN p.rules) g);rw[<-hQ] at q1 q2 q3 Et gq Jn |-;have W:=q1.jG;simp only at gq Jn q2 Et W l_ |-;obtain⟨T,hT⟩:∃T:Nat->rO,∀k,T k=dg (u.take k) (J,1):=⟨_,λ_=>rfl⟩
    have wW:T 0=(J,1):=by rw[hT];rfl
    have nJ:T u.length=dg u (J,1):=by rw[hT,abb]
    have hR:∀k,Came J (T k) (3*u.length):=λk=>by
     rw[hT];exact(S8 (s:=(J,1)) (λe d=>q2 e (aaQ d)) (λe d=>Et e (aaQ d)) W).mono (by rw[aas];omega)
    have iL:u.length=ms.length:=Jn.symm;simp(disch:=omega)[tS,Pl,iL];have hM:=λc'=>Q c' [some (.zone ms.length)] (λ_=>rfl)
    refine aO ms.length (λk=>[(4,.ptr 2 0),(13,.vs (EL u) (.own (Z.length+9))),(16,.int .i64 (T k).2),(95,.vs (EL u) (.own (Z.length+9))),(96,.int .i64 ms.length),(97,.int .i64 k)])
     (λk=>LH p (T k).1 (of.map vO) (dI.map vN) ms.length (Z++[some (.zone ms.length)])) (λ_=>True) ?_ ?_
    .simp(disch:=omega)[av,gV,tS,wW,TS]
    intro k hk _
    by_cases o_:k<ms.length
    .have EY:k<u.length:=an
     obtain⟨x,sD⟩:=bb (u[k]'EY)
     have xc:u[k]?=some x:=by rw[aae EY,sD]
     have L:=zBK xc
     have yr:(EL u)[k]'(by simpa using EY)=[.int .u32 x.1,.int .i64 x.2]:=by rw[aae (by simpa using EY)] at L;exact aa_.inj L
     have jH:T (k+1)=(gD (T k).1 21 x.1 x.2 (T k).2,(gD (T k).1 21 x.1 x.2 (T k).2).length):=by rw[hT,hT,aaK,xc];exact zp4 _ _ _
     have tc:=S8 (l:=u.take k) (s:=(J,1)) (λe d=>q2 e (aaQ d)) (λe d=>Et e (aaQ d)) W;rw[<-hT] at tc;have gt:=tc.grown.len;have lt:=tc.jG;rw[aas] at gt;have lx:=q2 x (aao xc);simp only at lx gt;obtain⟨⟨c1,o1⟩,pj⟩:=bb (T k);rw[<-pj] at jH gt lt |-;simp only at gt lt jH;have wb:=I_ (G:=G) (Q c1 [some (.zone ms.length),some (.cells [.int .u32 x.1,.int .i64 x.2])] (λn=>rfl)) 21 x.1 x.2 o1 (.inl rfl) ⟨lx.1,an⟩ lt an
     rw[b_] at wb;simp(disch:=omega)[bC,L,GQ,tS,z7,LI,A,B6];refine cP wb ?_;simp(disch:=omega)[av,gV,bA,jH,TS,o_,-aab]
    .have hU:k=ms.length:=an
     subst hU
     have wi:T ms.length=dg u (J,1):=by rw[<-iL];exact nJ
     by_cases iI:u=[]
     .have NP:ms.length=0:=by rw[<-iL,iI];rfl
      have Pt:(0<ms.length)=False:=ah8;rw[if_pos iI];rw[wi];generalize dg u (J,1)=s2;simp(disch:=omega)[tS,iL,Pt,Pk,B6,FL]
     .have NP:ms.length≠0:=by rw[<-iL];exact λh=>iI (abe.1 h)
      have Pt:((0:Int)<(ms.length:Int))=True:=ah7;have tc:=(hR ms.length).grown.len;rw[wi] at tc;rw[if_neg iI];rw[wi];generalize dg u (J,1)=s2 at *;have wa:=LC (G:=G) (hM s2.1) 32 4 (.inr (.inr ⟨rfl,ah9,ah9⟩)) an;rw[b_] at wa;simp(disch:=omega)[gV,tS,iL,B6];refine cP wa ?_;simp(disch:=omega)[tS,Pk,B6,FL]
def sY(o:Nat->Nat->Nat)(f g:List Nat)(i:Nat):List Nat:=aaY o (f.take i) (g.take i)++f.drop i
section
variable {o:Nat->Nat->Nat} {f g:List Nat} {i n:Nat}
def zyo(a:f.length=n)(b:g.length=n):(sY o f g i).length=n:=by simp[sY,a,b];omega
def zEh:sY o f g 0=f:=by simp[sY]
def zGD(a:f.length=n)(b:g.length=n):sY o f g n=aaY o f g:=by rw[sY,aai an,aai an,ab6 an,abu]
def zGE(a:f.length=n)(b:g.length=n)(h:i<n):(sY o f g i)[i]?=some (f[i]' an):=by
 rw[sY,aaj (by simp;omega)]
 have e:i-(aaY o (f.take i) (g.take i)).length=0:=by simp;omega
 rw[e,ab1];exact lf an
def zyp(b:f.length=n)(c:g.length=n)(h:i<n):(sY o f g i).set i (o (f[i]' an) (g[i]' an))=sY o f g (i+1):=by
 apply acs;intro j;have e:(sY o f g i).length=n:=zyo b c;rw[ab4]
 have a:∀k,(aaY o (f.take k) (g.take k)).length=min k n:=λk=>by simp[b,c]
 by_cases d:i=j
 .subst d;simp only[if_true,e,h];rw[sY,aah (by rw[a];omega)];simp[acU,show i<f.length by omega,show i<g.length by omega]
 .rw[if_neg d,sY,sY]
  by_cases l:j<i
  .rw[aah (by rw[a];omega),aah (by rw[a];omega)];simp[acU,l,show j<i+1 by omega]
  .rw[aaj (by rw[a];omega),aaj (by rw[a];omega),a,a];simp only[ab1]
   congr 1
   omega
end
def EZ{l:List Nat}{i x:Nat}(k:IntKind)(h:l[i]?=some x):((ax k l).drop i).take 1=[.int k (x:Int)]:=by obtain⟨a,rfl⟩:=aaf.1 h;exact su k l i a
section
variable {α:Type} (H l:List α)
def ll:(H++l)[H.length]?=l[0]?:=by rw[aaj (aaD _),abD]
def iG(k:Nat):(H++l)[H.length+k]?=l[k]?:=by rw[aaj an,acG]
def z8(x:α):(H++l).set H.length x=H++l.set 0 x:=by rw[aau _ _ (aaD _),abD]
def xT(k:Nat)(x:α):(H++l).set (H.length+k) x=H++l.set k x:=by rw[aau _ _ an,acG]
end
def zsR[au G](fn:Nat)(cap:List V)(o:Nat->Nat->Nat)(f g:List Nat)(H:ae)(y:iq H)(a:f.length=35)(b:g.length=35)(q:∀n,H.length<=n->aZ n cap=cap)
  (s:∀(i:Nat) (h:i<35) (r:ae),bE G (.F fn ([.int .u32 (f[i]'(by omega):Nat),.int .u32 (g[i]'(by omega):Nat)]++cap) (H++r) (.int .u32 (o (f[i]' an) (g[i]' an):Nat)) (H++r))) :
  bE G (.F 245 [.agg (ax .u32 f),.agg (ax .u32 g),.fn fn cap] H (.agg (ax .u32 (aaY o f g))) (H++[some (.cells (ax .u32 (aaY o f g))),some (.cells (ax .u32 g)),some (.cells (ax .u32 (aaY o f g)))])):=by
 refine fg au.aes (aaa rfl) ?_;have c:∀i,(sY o f g i).length=35:=λi=>zyo a b
 have z:∀r,iq (H++[some (.cells (ax .u32 r)),some (.cells (ax .u32 g)),some (.cells (ax .u32 (aR 35)))]):=λr=>y.app λn=>by simp[ay.cl]
 have j:∀r x,ak (H.length+3) (H++some (.cells (ax .u32 r))::some (.cells (ax .u32 g))::some (.cells (ax .u32 (aR 35)))::x)=H++[some (.cells (ax .u32 r)),some (.cells (ax .u32 g)),some (.cells (ax .u32 (aR 35)))]:=λr x=>by
  have:=(z r).back x;simpa using this
 have A:=s 0 an;have t:((ax .u32 f).drop 0).take 1=[.int .u32 (f[0]:Nat)]:=su .u32 f 0 an;have d:((ax .u32 g).drop 0).take 1=[.int .u32 (g[0]:Nat)]:=su .u32 g 0 an;rw[acj] at t d;have J:=eA (k:=.u32) a;have K:=eA (k:=.u32) b
 have u:V.int .u32 (o f[0] g[0]:Nat)::(ax .u32 f).drop 1=ax .u32 (sY o f g 1):=by have v:=wQ .u32 (sY o f g 0) 0 (o f[0] g[0]) (by rw[c];omega);rw[zyp a b an,zEh] at v;simpa using v
 rw[acZ] at u;obtain⟨m,l⟩:∃m:Nat->ae,∀i,m i=H++[some (.cells (ax .u32 (sY o f g (i+1)))),some (.cells (ax .u32 g)),some (.cells (ax .u32 (aR 35)))]:=⟨_,λ_=>rfl⟩;simp[a,b,t,d];refine kW (A _) ir ?_;simp[j,a,u];refine aO 34 (λi=>[(2,.fn fn cap),(3,.ptr H.length 0),(4,.ptr (H.length+1) 0),(6,.ptr (H.length+2) 0),(15,.int .i64 i)]) m (λ_=>True) ?_ ?_
 .simp[av,j,l,q]
 intro i hi _
 by_cases B:i<34
 .have p:=zGE (o:=o) a b (show i+1<35 by omega);have C:g[i+1]?=some (g[i+1]' an):=lf an;have q1:=EZ .u32 p;have D:=EZ .u32 C;have e:=wQ .u32 (sY o f g (i+1)) (i+1) (o (f[i+1]' an) (g[i+1]' an)) (by rw[c];omega);rw[zyp a b an] at e;simp(disch:=omega)[bC,leFn,aB,ll,iG,l,c,b,show 1+i=i+1 from adv 1 i,q1,D,-aab];refine kW (s (i+1) an [some (.cells (ax .u32 (sY o f g (i+1)))),some (.cells (ax .u32 g)),some (.cells (ax .u32 (aR 35)))]) (λ_=>by have:=j (sY o f g (i+1)) [];simpa using this) ?_
  simp(disch:=omega)[bC,aB,ll,l,B,c,show 1+i=i+1 from adv 1 i,e,-aab,j,bA,av,q]
 .have E:i=34:=an
  subst E;have L:=c 35;have I:=zGD (o:=o) a b
  have w:(aaY o f g).length=35:=by simp[a,b]
  simp(disch:=omega)[leFn,ll,iG,l,I,w,eA (k:=.u32) w]
def j9(f g:List Nat):List Nat:=aaY (λa b=>(a+b)%4294967296) f g
def fF(f g:List Nat):List Nat:=aaY (λa b=>(a+4294967296-b)%4294967296) f g
def eG(f:List Nat)(k:Nat):List Nat:=f.map λa=>a*k%4294967296
def zGF[au G](a b:Nat)(H:ae):bE G (.F 246 [.int .u32 a,.int .u32 b] H (.int .u32 ((a+b)%4294967296:Nat)) H):=by refine fg au.aet (aaa rfl) ?_;simp;simp[aC,Gh]
def zGG[au G](a b:Nat)(c:b<4294967296)(H:ae):bE G (.F 248 [.int .u32 a,.int .u32 b] H (.int .u32 ((a+4294967296-b)%4294967296:Nat)) H):=by refine fg au.aev (aaa rfl) ?_;simp;simp[bO,Gh];omega
def zGH[au G](a b k p:Nat)(H:ae)(c:H[p]?=some (some (.cells [.int .u32 k]))):bE G (.F 250 [.int .u32 a,.int .u32 b,.ptr p 0] H (.int .u32 (a*k%4294967296:Nat)) H):=by refine fg au.aex (aaa rfl) ?_;simp[c];simp[dS,Gh]
def zGI[au G](f g:List Nat)(c:f.length=35)(d:g.length=35):FP G 247 [.agg (ax .u32 f),.agg (ax .u32 g)] (.agg (ax .u32 (j9 f g))):=by
 refine bw au.aeu (aaa rfl) ?_;have o:=eA (k:=.u32) c;have p:=eA (k:=.u32) d
 have j:(j9 f g).length=35:=by simp[j9,c,d]
 have q:=eA (k:=.u32) j
 have l:iq [some (.cells (ax .u32 f)),some (.cells (ax .u32 g)),some (.cells (ax .u32 (aR 35)))]:=λn _=>by simp[ay.cl]
 have m:=l.back;simp at m;simp[c,d,o,p];refine zG (zsR 246 [] (λa b=>(a+b)%4294967296) f g _ l c d (λ_ _=>rfl) (λi h r=>zGF _ _ _)) ?_;have e:aaY (λa b=>(a+b)%4294967296) f g=j9 f g:=rfl;simp[e,m,j,q]
def zsS[au G](f g:List Nat)(c:f.length=35)(d:g.length=35)(o:∀x∈g,x<4294967296):FP G 249 [.agg (ax .u32 f),.agg (ax .u32 g)] (.agg (ax .u32 (fF f g))):=by
 refine bw au.aew (aaa rfl) ?_;have p:=eA (k:=.u32) c;have q:=eA (k:=.u32) d
 have j:(fF f g).length=35:=by simp[fF,c,d]
 have s:=eA (k:=.u32) j
 have l:iq [some (.cells (ax .u32 f)),some (.cells (ax .u32 g)),some (.cells (ax .u32 (aR 35)))]:=λn _=>by simp[ay.cl]
 have m:=l.back;simp at m;simp[c,d,p,q];refine zG (zsR 248 [] (λa b=>(a+4294967296-b)%4294967296) f g _ l c d (λ_ _=>rfl) (λi h r=>zGG _ _ (o _ (acx _)) _)) ?_;have e:aaY (λa b=>(a+4294967296-b)%4294967296) f g=fF f g:=rfl;simp[e,m,j,s]
def TW[au G](f:List Nat)(k:Nat)(b:f.length=35):FP G 251 [.agg (ax .u32 f),.int .u32 k] (.agg (ax .u32 (eG f k))):=by
 refine bw au.aey (aaa rfl) ?_;have j:=eA (k:=.u32) b
 have c:(eG f k).length=35:=by simp[eG,b]
 have l:=eA (k:=.u32) c
 have d:iq [some (.cells (ax .u32 f)),some (.cells [.int .u32 k]),some (.cells (ax .u32 (aR 35)))]:=λn _=>by simp[ay.cl]
 have g:=d.back;simp at g;simp[b,j];refine zG (zsR 250 [.ptr 1 0] (λa _=>a*k%4294967296) f f _ d b b (λn m=>by simp at m;simp[aZ,V.cl,show 1<n by omega]) (λi h r=>zGH _ _ k 1 _ ir)) ?_;have e:f.map (λa=>a*k%4294967296)=eG f k:=rfl;simp[e,g,c,l]
def pB(f:List Nat):Option Nat:=if f.drop 1=aR 34 then f.head? else none
def TX[au G](f:List Nat)(i:f.length=35):FP G 253 [.agg (ax .u32 f)] (.bc [.int .u32 ((pB f).getD 0:Nat),.bool (pB f).isSome]):=by
 refine bw au.aeA (aaa rfl) ?_
 obtain⟨c,t,rfl⟩:∃c t,f=c::t:=by cases f with|nil=>simp at i|cons c t=>exact⟨c,t,rfl⟩
 have d:t.length=34:=by simpa using i
 have j:ax .u32 (c::t)=.int .u32 (c:Int)::ax .u32 t:=rfl;have g:=IE .u32 (n:=34) (a:=t) (b:=aR 34) d ir;have l:=eA (k:=.u32) d
 by_cases e:t=aR 34
 .have h:pB (c::t)=some c:=by simp[pB,e]
  rw[decide_eq_true e] at g;simp[-aak,j,d,l,g,h]
 .have h:pB (c::t)=none:=by simp[pB,e]
  rw[decide_eq_false e] at g;simp[-aak,j,d,l,g,h]
def xU(f v:List Nat)(i:Nat):Nat:=((aaY (·*·) (f.drop 1) v).take i).sum
def j_(f v:List Nat):Nat:=(f.headD 0+xU f v 34)%4294967296
def zEi[au G](f v:List Nat)(g:f.length=35)(j:v.length=34)(b:∀x∈f,x<4294967296):FP G 252 [.agg (ax .u32 f),.agg (ax .u32 v)] (.int .u32 (j_ f v:Nat)):=by
 refine bw au.aez (aaa rfl) ?_
 obtain⟨c,t,rfl⟩:∃c t,f=c::t:=by cases f with|nil=>simp at g|cons c t=>exact⟨c,t,rfl⟩
 have d:t.length=34:=by simpa using g
 have n:ax .u32 (c::t)=.int .u32 (c:Int)::ax .u32 t:=rfl;have o:=eA (k:=.u32) d;have u:=eA (k:=.u32) j;have w:c<4294967296:=b c ir;simp[n,d,o];obtain⟨S,a⟩:∃S:Nat->Nat,∀i,S i=(c+xU (c::t) v i)%4294967296:=⟨_,λ_=>rfl⟩
 have p:S 0=c:=by rw[a];simp[xU];omega
 have e:S 34=j_ (c::t) v:=by rw[a];rfl
 have q:∀(i:Nat) (h:i<34),(S i+(t[i]' an)*(v[i]' an))%4294967296=S (i+1):=λi h=>by
  rw[a,a,xU,xU,aaK,aae (by simp;omega)];simp;omega
 refine aO 34 (λi=>[(3,.ptr 1 0),(5,.int .u32 (S i:Nat)),(11,.agg (ax .u32 t)),(12,.int .i64 i)]) (λ_=>[some (.cells (.int .u32 (c:Int)::ax .u32 t)),some (.cells (ax .u32 v))]) (λ_=>True) ?_ ?_
 .simp[av,p,ak,aZ,V.cl]
 intro i hi _
 by_cases l:i<34
 .have q1:=EZ .u32 (lf (show i<t.length by omega));have r:=EZ .u32 (lf (show i<v.length by omega))
  have m:aC .u32 (S i:Int) (dS .u32 (t[i]:Nat) (v[i]:Nat))=((S (i+1):Nat):Int):=by rw[<-q i l];simp[aC,dS,Gh]
  simp(disch:=omega)[bC,leFn,aB,l,d,j,q1,r,m,-aab,bA,av,ak,aZ,V.cl]
 .have s:i=34:=an
  subst s;simp[e]
def nN(f:List Nat):Option Nat:=(List.range 34).find? λi=>decide (f=cJ i)
def zGJ[au G](f:List Nat)(p:f.length=35):FP G 254 [.agg (ax .u32 f)] (.bc [.int .i64 ((nN f).getD 0:Nat),.bool (nN f).isSome]):=by
 refine bw au.aeB (aaa rfl) ?_
 obtain⟨c,t,rfl⟩:∃c t,f=c::t:=by cases f with|nil=>simp at p|cons c t=>exact⟨c,t,rfl⟩
 have g:t.length=34:=by simpa using p
 have s:ax .u32 (c::t)=.int .u32 (c:Int)::ax .u32 t:=rfl;have x:=eA (k:=.u32) g;have u:=eA (k:=.u32) p;rw[s] at u;have D:(abC 35 Kd.int)=Kd.int::abC 34 .int:=rfl;simp[-aak,s,g,x];refine aO 34 (λi=>[(1,.ptr 0 0),(9,.agg (ax .u32 t)),(10,.int .i64 i)]) (λ_=>[some (.cells (.int .u32 (c:Int)::ax .u32 t))]) (λi=>∀j,j<i->c::t≠cJ j) ?_ ?_
 .simp[av,ak,aZ,V.cl]
 intro i hi q
 by_cases r:i<34
 .have q1:=EZ .u32 (lf (show i<t.length by omega));have hd:(ax .u32 (aR 35)).drop 35=[]:=rfl
  have l:(cJ i).length=35:=by simp[cJ]
  have w:=eA (k:=.u32) l;have m:=IE .u32 (n:=35) (a:=cJ i) (b:=c::t) l p;rw[s] at m
  have y:c::t=cJ i->t[i]=1:=λe=>by
   have d:(c::t)[i+1]?=some 1:=by rw[e,cJ,aaG (by simp;omega)]
   rw[ab3,lf an] at d;exact aa_.inj d
  simp(disch:=omega)[-aak,bC,aB,g,q1];refine aw (Y_ i r) ?_
  by_cases d:t[i]=1
  .by_cases e:cJ i=c::t
   .have z:nN (c::t)=some i:=by rw[nN,List.find?_range_eq_some];exact⟨by simpa using e.symm,acm.2 r,λj o=>by simpa using q j o⟩
    rw[decide_eq_true e] at m;simp(disch:=omega)[-aak,leFn,g,l,w,u,hd,d,m,z]
   .rw[decide_eq_false e] at m
    have v:∀j,j<i+1->c::t≠cJ j:=λj o=>by
     by_cases e':j=i
     .subst e';exact λh=>e h.symm
     .exact q j an
    simp(disch:=omega)[-aak,leFn,r,g,l,w,u,hd,d,m,-aab,bA,av,ak,aZ,V.cl];exact v
  .have v:∀j,j<i+1->c::t≠cJ j:=λj o=>by
    by_cases e':j=i
    .subst e';exact λh=>d (y h)
    .exact q j an
   have A:((t[i]:Int)==1)=false:=by rw[beq_eq_false_iff_ne];omega
   simp(disch:=omega)[-aak,r,l,hd,A,-aab,bA,av,ak,aZ,V.cl];exact v
 .have B:i=34:=an
  subst B
  have C:nN (c::t)=none:=by rw[nN,acn];intro j o;simpa using q j (acm.1 o)
  simp[C]
open Go Go.RowKit
variable {G:aL}
def zNp(b:bJ G){kind:Int}{fv gv vs:List Int}{ft gt tab:List Nat}(a:pN kind fv gv ft gt)(c:∀w∈ft,w<4294967296)(d:∀w∈gt,w<4294967296)(e:Right vs tab)
  (f:∀p,dm vs tab p=(cC kind (dm fv ft p) (dm gv gt p)).1):FP G 109 [.int .i64 kind,FV fv ft,FV gv gt] (.bc [FV vs tab,.bool true]):=by
 have g:=a.2.1.1;have i:=a.2.2.1.1;have m:=CV g a.2.1.2.1;have n:=CV i a.2.2.1.2.1;obtain⟨r,j,h|⟨_,o,q,rfl,k,_,l⟩⟩:=zFu b kind fv gv ft gt an an an an c d
 .exact absurd a h.1
 .obtain⟨rfl,rfl⟩:=zFt k e λp=>by rw[f,l]
  exact j
def zIo(vs:List Int)(tab:List Nat)(r:Int->Nat):val vs tab r<4294967296:=vV _ 32
def zBQ{kind:Int}{fv gv vs:List Int}{ft gt tab:List Nat}(h:kind=68\/kind=84\/kind=164)(a:∀p,dm vs tab p=(cC kind (dm fv ft p) (dm gv gt p)).1)(r:Int->Nat) :
  val vs tab r=(cC kind (val fv ft r) (val gv gt r)).1:=by
 refine Nat.eq_of_testBit_eq λi=>?_
 have b:∀(v:List Int) (t:List Nat),(val v t r).testBit i=(decide (i<32)&&(dm v t λu=>(r u).testBit i).testBit i):=λv t=>by rw[val,BD]
 rcases h with rfl|rfl|rfl<;>simp only[cC] at a |-<;>simp at a |-<;>(rw[b,a];simp[b];try (cases decide (i<32)<;>simp))
variable {H:ae} {b z m:Nat} {L:List Nd}
def zEj{f:List Nat}(a:f.length=35):(fe f).ok:=⟨a,rfl,rfl⟩
def bj(L:List Nd)(a:Nd):Int×List Nd:=((L.idxOf a:Nat),iW L a)
def BF(G:aL)(f:Nat)(args:List V)(H:ae)(b z m:Nat)(p:Int×List Nd):Prop:=SF G f (.ptr b 0::args) H (.int .i64 p.1) (dE H b z m p.2)
def Dm[aN G](f:List Nat)(a:f.length=35)(h:Bk H b z m L)(c:L.length<1000000):BF G 260 [.agg (ax .u32 f)] H b z m (bj L (fe f)):=by
 have d:=eA (k:=.u32) a
 have e:Bk (H++[some (.cells (ax .u32 f))]) b z m L:=h.app λn=>by simp[ay.cl]
 have g:=h.cA [some (.cells (ax .u32 f))] (iW L (fe f));have i:=h.back (iW L (fe f)) [some (.cells (ax .u32 f))];refine kr aN.aeG (aaa rfl) ?_;simp[-aak,a,d,-ow,nz,zDJ f a,leFn];refine cP (Lg (fe f) (zEj a) e c) ?_;simp[bj,g,i]
def LL[au G][aN G](c:Nat)(h:Bk H b z m L)(d:L.length<1000000):BF G 262 [.int .u32 c] H b z m (bj L (fe (c::aR 34))):=by have a:=h.back (iW L (fe (c::aR 34))) [];refine kr aN.aeI (aaa rfl) ?_;simp at a;simp;refine aw (Y9 c) ?_;simp;refine cP (Dm (c::aR 34) ir h d) ?_;simp[bj,a]
def ma(L:List Nd)(i:Int):Int×List Nd:=if 0<=i/\i<34 then bj L (fe (cJ i.toNat)) else(-1,L)
def zyq[au G][aN G](i:Int)(h:Bk H b z m L)(f:L.length<1000000):BF G 263 [.int .i64 i] H b z m (ma L i):=by
 refine kr aN.aeJ (aaa rfl) ?_;have hd:(ax .u32 (aR 35)).drop 35=[]:=rfl
 by_cases hi:i<0\/34<=i
 .have a:ma L i=(-1,L):=by rw[ma,if_neg an]
  have c:=h.shut.back;simp[a,h.gA];refine aw (zBg i hi) ?_;simp[hd,c]
 .obtain⟨n,rfl⟩:=aaF (show 0<=i by omega)
  have a:ma L n=bj L (fe (cJ n)):=by rw[ma,if_pos an];rfl
  have d:(cJ n).length=35:=by simp[cJ]
  have g:=eA (k:=.u32) d
  have e:Bk (H++[some (.cells (ax .u32 (cJ n)))]) b z m L:=h.app λn=>by simp[ay.cl]
  have j:=h.cA [some (.cells (ax .u32 (cJ n)))] (iW L (fe (cJ n)));have c:=h.back (iW L (fe (cJ n))) [some (.cells (ax .u32 (cJ n)))];have l:=e.shut.self;simp at l;simp[a];refine aw (Y_ n an) ?_;simp[hd,d,g];refine cP (Dm (cJ n) d e f) ?_;simp[bj,j,c]
def wj(fv:List Int)(ft:List Nat):Nd:={ sQ with kind:=1,n:=fv.length,vars:=fv.map ab2++aR (4-fv.length),tab:=ft++aR (16-ft.length) }
def ones:Nat:=4294967295
def tT(L:List Nd)(fv:List Int)(ft:List Nat):Int×List Nd :=
 match fv with
 | []=>bj L (fe (ft.headD 0::aR 34))
 | [i]=>if ft=[0,ones] then bj L (fe (cJ i.toNat)) else if ft=[ones,0] then bj L (fe (fF (ones::aR 34) (cJ i.toNat))) else bj L (wj [i] ft)
 | fv=>bj L (wj fv ft)
def zEk[au G][aN G](fv:List Int)(ft:List Nat)(hR:Right fv ft)(h:Bk H b z m L)(J:L.length<1000000):BF G 261 [FV fv ft] H b z m (tT L fv ft):=by
 refine kr aN.aeH (aaa rfl) ?_
 have K:Bk (H++[some (.cells [.vs (ints .i64 fv) .no,.vs (aq .u32 ft) .no])]) b z m L:=h.app λn=>by simp[ay.cl,aZ,V.cl]
 obtain⟨Y,d,Z⟩:=hR
 match fv,Y,d,Z,K with
 | [],_,d,_,K => 
  obtain⟨c,rfl⟩:∃c,ft=[c]:=by match ft,d with|[c],_=>exact⟨c,rfl⟩
  have g:=h.cA [some (.cells [.vs (ints .i64 []) .no,.vs (aq .u32 [c]) .no])] (iW L (fe (c::aR 34)));have o:=h.back (iW L (fe (c::aR 34))) [some (.cells [.vs (ints .i64 []) .no,.vs (aq .u32 [c]) .no])];have hn:∀x:Nat,aq .u32 [x]=[[.int .u32 x]]:=λ_=>rfl;simp only[hn,zDi] at K g o;have fM:=K.shut.self;simp at fM;simp[FV,tT,aB,leFn,hn];refine cP (LL c K J) ?_
  simp[bj,g,o]
 | i::t,Y,d,Z,K => 
  have ah:t.length+1<=4:=by simpa using Y
  have hb:∀v∈t,0<=v:=λv A=>by
   obtain⟨j,hj,rfl⟩:=ac2 A;obtain⟨w,hw,E1,_⟩:=Z (j+1) (by simp;omega);rw[ab3,aae hj] at hw;cases hw;exact E1
  obtain⟨v,A,RK,hp,_⟩:=Z 0 ir
  obtain rfl:i=v:=by simpa using A
  obtain⟨n,rfl⟩:=aaF RK;have hd:(ax .u32 (aR 35)).drop 35=[]:=rfl
  have s:(cJ n).length=35:=by simp[cJ]
  have ht:=eA (k:=.u32) s
  obtain⟨p,q,r,rfl⟩:∃p q r,ft=p::q::r:=by
   match ft,d with
   | p::q::r,_=>exact⟨p,q,r,rfl⟩
   | [p],d=>exfalso;have:=ac8 (n:=t.length);simp[adw] at d;omega
   | [],d=>exfalso;have:=ac8 (n:=t.length);simp[adw] at d;omega
  have h2:Bk (H++[some (.cells [.vs (ints .i64 ((n:Int)::t)) .no,.vs (aq .u32 (p::q::r)) .no]),some (.cells (ax .u32 (cJ n)))]) b z m L:=h.app λn=>by simp[ay.cl,aZ,V.cl]
  have hf:=K.shut.self;have Jh:=h2.shut.self;simp at hf Jh;simp(disch:=omega)[FV,aG,ll,aB,leFn];refine aw (Y_ n an) ?_
  have cs:(t=[]/\p=0/\q=ones)\/(t=[]/\p=ones/\q=0)\/(t≠[]\/t=[]/\p≠0/\p≠ones\/t=[]/\p=0/\q≠ones\/t=[]/\p=ones/\q≠0):=by
   by_cases e1:t=[]
   .simp only[e1,true_and,ne_eq,not_true,false_or,ones];omega
   .exact .inr (.inr (.inl e1))
  rcases cs with⟨rfl,rfl,rfl⟩|⟨rfl,rfl,rfl⟩|cs
  .obtain rfl:r=[]:=by simpa using d
   have g:=h.cA [some (.cells [.vs (ints .i64 [(n:Int)]) .no,.vs (aq .u32 [0,ones]) .no]),some (.cells (ax .u32 (cJ n)))] (iW L (fe (cJ n)));have o:=h.back (iW L (fe (cJ n))) [some (.cells [.vs (ints .i64 [(n:Int)]) .no,.vs (aq .u32 [0,ones]) .no]),some (.cells (ax .u32 (cJ n)))];have Q:=h2;simp[ones,aq] at g o Q;simp(disch:=omega)[ones,aq,ll,iG,aB,leFn,hd,ht,s];refine cP (Dm (cJ n) s Q J) ?_
   simp[bj,g,o,tT,ones]
  .obtain rfl:r=[]:=by simpa using d
   have EH:(fF (ones::aR 34) (cJ n)).length=35:=by simp[fF,s]
   have g:=h.cA [some (.cells [.vs (ints .i64 [(n:Int)]) .no,.vs (aq .u32 [ones,0]) .no]),some (.cells (ax .u32 (cJ n)))] (iW L (fe (fF (ones::aR 34) (cJ n))));have o:=h.back (iW L (fe (fF (ones::aR 34) (cJ n)))) [some (.cells [.vs (ints .i64 [(n:Int)]) .no,.vs (aq .u32 [ones,0]) .no]),some (.cells (ax .u32 (cJ n)))];have Q:=h2
   have sF:∀x∈cJ n,x<4294967296:=λx M=>by
    rw[cJ] at M
    rcases acw M with M|rfl
    .rw[aR,adb] at M;omega
    .omega
   simp[ones,aq] at g o Q EH;simp(disch:=omega)[ones,aq,aG,ll,iG,aB,leFn,hd,s];refine aw (Y9 4294967295) ?_;simp(disch:=omega)[iG,leFn,ht,s];refine aw (zsS (4294967295::aR 34) (cJ n) ir s sF) ?_;simp;refine cP (Dm _ EH Q J) ?_;simp[bj,g,o,tT,ones]
  .have X3:tT L ((n:Int)::t) (p::q::r)=bj L (wj ((n:Int)::t) (p::q::r)):=by
    cases t with
    | cons _ _=>rfl
    | nil =>
     obtain rfl:r=[]:=by simpa using d
     simp only[tT];rw[if_neg,if_neg]
     .intro e;simp at e;simp at cs;omega
     .intro e;simp at e;simp at cs;omega
   obtain⟨a,ha⟩:∃a,a=wj ((n:Int)::t) (p::q::r):=⟨_,rfl⟩
   have u:(p::q::r).length<=16:=by rw[d];exact aby (n:=2) ah9 Y
   have R:a.ok:=by
    rw[ha];refine⟨rfl,?_,?_⟩
    .simp[wj];omega
    .simp[wj] at u |-;omega
   have Hn:(ax .u32 (aR 35)).length=35:=by simp
   obtain⟨a1,F⟩:∃a1:Nd,a1={ sQ with kind:=1,n:=t.length+1 }:=⟨_,rfl⟩;obtain⟨a2,jE⟩:∃a2:Nd,a2={ a1 with vars:=((n:Int)::t).map ab2++aR (4-(t.length+1)) }:=⟨_,rfl⟩
   have hg:a={ a2 with tab:=p::q::r++aR (16-(r.length+2)) }:=by rw[ha,jE,F];rfl
   have tU:∀r:List (Nat×V),ow (il ((66,.int .i64 ((t.length:Int)+1))::r)) sQ.cs [(0,1,.c (.int .i64 1)),(36,1,.t 66)]=some a1.cs:=λr=>by
    have he:(il ((66,.int .i64 ((t.length:Int)+1))::r)) 66=.int .i64 ((t.length:Int)+1):=by simp
    have hd:∀r:List V,(ax .u32 (aR 35)++r).drop 36=r.drop 1:=λr=>by rw[show 36=(ax .u32 (aR 35)).length+1 by simp,List.drop_append];simp
    simp[ow,sQ,Nd.cs,F,hd]
   have mC:a1.cs.length=60:=Nd.len (by rw[F];exact⟨rfl,rfl,rfl⟩);have B3:a1.cs.take 60=a1.cs:=aai an;have rR:sQ.cs.length=60:=rfl;have vj:sQ.cs.drop 60=[]:=rfl;obtain⟨O,Aw⟩:=bb (t.length+1);obtain⟨P,nD⟩:=bb (r.length+2)
   have hh:∀l:List Int,((ints .i64 l).map ab8).sum=l.length:=λl=>by induction l with
    | nil=>rfl
    | cons x l I=>simp only[D4,aa6,ac0,I,aa2,abV];omega
   have hk:∀l:List Nat,((aq .u32 l).map ab8).sum=l.length:=λl=>by rw[XT,ints,acf];induction l with
    | nil=>rfl
    | cons x l I=>simp only[aa6,ac0,acf] at I |-;rw[I];simp;omega
   have hq:min ((ints .i64 ((n:Int)::t)).map ab8).sum 4=O:=by rw[hh];simp;omega
   have ho:min ((aq .u32 (p::q::r)).map ab8).sum 16=P:=by rw[hk];simp at u |-;omega
   have xV:(ints .i64 ((n:Int)::t)).flatten=ax .i64 (((n:Int)::t).map ab2):=by
    have:∀l:List Int,(∀v∈l,0<=v)->(ints .i64 l).flatten=ax .i64 (l.map ab2):=λl=>by
     induction l with
     | nil=>intro _;rfl
     | cons x l I =>
      intro M;rw[D4,adj,I (λv A=>M v (by simp[A]))];have:=M x ir;simp[ax];omega
    exact this _ λv A=>by rcases aa7.1 A with rfl|A;omega;exact hb v A
   have S:(aq .u32 (p::q::r)).flatten=ax .u32 (p::q::r):=by
    have:∀l:List Nat,(aq .u32 l).flatten=ax .u32 l:=λl=>by
     induction l with
     | nil=>rfl
     | cons x l I=>rw[zts,adj,I];rfl
    exact this _
   have B:(ax .i64 (((n:Int)::t).map ab2)).take O=ax .i64 (((n:Int)::t).map ab2):=aai (by simp;omega);have C:(ax .u32 (p::q::r)).take P=ax .u32 (p::q::r):=aai (by simp;omega)
   have T:∀c:Nd,c.ok->c.cs.take 37=.int .i64 (c.kind:Int)::(ax .u32 c.f++[.int .i64 c.n])/\c.cs.drop 37=ax .i64 c.vars++(ax .u32 c.tab++[.int .i64 c.op,.int .i64 c.x,.int .i64 c.y]):=λc hc=>by
    have e:c.cs=(.int .i64 (c.kind:Int)::(ax .u32 c.f++[.int .i64 c.n]))++(ax .i64 c.vars++(ax .u32 c.tab++[.int .i64 c.op,.int .i64 c.x,.int .i64 c.y])):=by simp[Nd.cs]
    have d:(V.int .i64 (c.kind:Int)::(ax .u32 c.f++[.int .i64 c.n])).length=37:=by simp[hc.1]
    rw[e];exact⟨abk d,abI d⟩
   have U:∀c:Nd,c.ok->c.cs.take 41=.int .i64 (c.kind:Int)::(ax .u32 c.f++.int .i64 (c.n:Int)::ax .i64 c.vars)/\c.cs.drop 41=ax .u32 c.tab++[.int .i64 c.op,.int .i64 c.x,.int .i64 c.y]:=λc hc=>by
    have e:c.cs=(.int .i64 (c.kind:Int)::(ax .u32 c.f++.int .i64 (c.n:Int)::ax .i64 c.vars))++(ax .u32 c.tab++[.int .i64 c.op,.int .i64 c.x,.int .i64 c.y]):=by simp[Nd.cs]
    have d:(V.int .i64 (c.kind:Int)::(ax .u32 c.f++.int .i64 (c.n:Int)::ax .i64 c.vars)).length=41:=by simp[hc.1,hc.2.1]
    rw[e];exact⟨abk d,abI d⟩
   have Pu:a1.ok:=by rw[F];exact⟨rfl,rfl,rfl⟩
   have Jp:a2.ok:=by rw[jE,F];refine⟨rfl,?_,rfl⟩;simp;omega
   have dz:∀(k:IntKind) (n j:Nat) (r:List V),j<=n->(ax k (aR n)++r).drop j=ax k (aR (n-j))++r:=λk n j r h=>by
    rw[List.drop_append_of_le_length (by simp;exact h),ax,<-List.map_drop,aR,List.drop_replicate];rfl
   have D:a1.cs.take 37++(ax .i64 (((n:Int)::t).map ab2)++a1.cs.drop (37+O))=a2.cs:=by rw[<-abc,(T a1 Pu).1,(T a1 Pu).2,show a1.vars=aR 4 by rw[F];rfl,dz .i64 4 O _ an,jE,Aw];simp[Nd.cs,F,ax]
   have E:a2.cs.take 41++(ax .u32 (p::q::r)++a2.cs.drop (41+P))=a.cs:=by rw[<-abc,(U a2 Jp).1,(U a2 Jp).2,show a2.tab=aR 16 by rw[jE,F];rfl,dz .u32 16 P _ (by simp at u;omega),hg,nD];simp[Nd.cs,ax]
   have zO:=Nd.len R;have E3:=Nd.len Jp;have zR:a.cs.take 60=a.cs:=aai an
   have DN:∀(c:Nd) (n:Nat),aZ n c.cs=c.cs:=λc n=>by rw[g9];simp[Nd.cs,ax,aaZ,V.cl]
   have N:Bk (H++[some (.cells [.vs (ints .i64 ((n:Int)::t)) .no,.vs (aq .u32 (p::q::r)) .no]),some (.cells (ax .u32 (cJ n))),some (.cells a.cs)]) b z m L:=h.app λn=>by simp[ay.cl,DN,aZ,V.cl]
   have g:=h.cA [some (.cells [.vs (ints .i64 ((n:Int)::t)) .no,.vs (aq .u32 (p::q::r)) .no]),some (.cells (ax .u32 (cJ n))),some (.cells a.cs)] (iW L a);have o:=h.back (iW L a) [some (.cells [.vs (ints .i64 ((n:Int)::t)) .no,.vs (aq .u32 (p::q::r)) .no]),some (.cells (ax .u32 (cJ n))),some (.cells a.cs)];rw[X3,<-ha];rw[Aw] at D B;rw[nD] at E C;rw[show r.length+2=r.length+1+1 from rfl] at E C
   simp only[aa6,adl] at D B
   rcases cs with cs|⟨rfl,cs,gO⟩|⟨rfl,rfl,cs⟩|⟨rfl,rfl,cs⟩
   .have f_:0<t.length:=abn.2 cs;simp(disch:=omega)[-ow,nz,aG,ll,iG,aB,leFn,hd,s,tU,mC,rR,vj,xV,S,B,C,D,E,zO,E3,zR];refine cP (Lg a R N J) ?_;simp[bj,g,o]
   .have Om:((p:Int)==0)=false:=aG an;have W:((p:Int)==4294967295)=false:=aG (by rw[ones] at gO;omega);have X:∀r,ow (il ((66,.int .i64 1)::r)) sQ.cs [(0,1,.c (.int .i64 1)),(36,1,.t 66)]=some a1.cs:=λr=>tU r;simp at D B E C N g o;simp(disch:=omega)[Om,W,X,-ow,nz,ll,iG,aB,leFn,hd,s,mC,rR,vj,xV,S,B,C,D,E,zO,E3,zR];refine cP (Lg a R N J) ?_;simp[bj,g,o]
   .have W:((q:Int)==4294967295)=false:=aG (by rw[ones] at cs;omega);have X:∀r,ow (il ((66,.int .i64 1)::r)) sQ.cs [(0,1,.c (.int .i64 1)),(36,1,.t 66)]=some a1.cs:=λr=>tU r;simp at D B E C N g o;simp(disch:=omega)[W,X,-ow,nz,aG,ll,iG,aB,leFn,hd,s,mC,rR,vj,xV,S,B,C,D,E,zO,E3,zR];refine cP (Lg a R N J) ?_;simp[bj,g,o]
   .have W:((q:Int)==0)=false:=aG an;have X:∀r,ow (il ((66,.int .i64 1)::r)) sQ.cs [(0,1,.c (.int .i64 1)),(36,1,.t 66)]=some a1.cs:=λr=>tU r;simp[ones] at D B E C N g o;simp only[ones] at ho S;simp(disch:=omega)[ones,W,X,-ow,nz,aG,ll,iG,aB,leFn,hd,s,mC,rR,vj,xV,S,B,C,D,E,zO,E3,zR];refine cP (Lg a R N J) ?_;simp[bj,g,o]
def gK(a:Nd):Option (List Int×List Nat) :=
 if a.kind=1 then some ((a.vars.take a.n).map fun(x:Nat)=>(x:Int),a.tab.take (2^a.n))
 else if a.kind=0 then(match pB a.f with
  | some c=>some ([],[c])
  | none=>match nN a.f with
   | some i=>some ([(i:Int)],[0,ones])
   | none=>match nN (fF (ones::aR 34) a.f) with
    | some i=>some ([(i:Int)],[ones,0])
    | none=>none)
 else none
def sZ(o:Option (List Int×List Nat)):V:=match o with
 | some p=>.bc [FV p.1 p.2,.bool true]
 | none=>.bc [.agg [.vs [] .full,.vs [] .full],.bool false]
def zmc(k:IntKind)(r:List V):∀(n:Nat) (l:List Nat),n<=l.length->qa 1 n (ax k l++r)=aq k (l.take n)
 | 0,_,_=>by simp[qa]
 | n+1,[],h=>by simp at h
 | n+1,x::l,h=>by
  have a:=zmc k r n l (by simpa using h);simp only[ax,aa6,aav,qa,ac1,zts];rw[show(V.int k (x:Int)::((l.map fun(x:Nat)=>V.int k (x:Int))++r)).drop 1=ax k l++r from rfl,a];rfl
def Nd.mb(n:Nat)(c:Nd):aZ n c.cs=c.cs:=by rw[g9];simp[Nd.cs,ax,aaZ,V.cl]
def zoC(i:Nat)(hi:i<34):Right [(i:Int)] [0,ones]/\Right [(i:Int)] [ones,0]:=by
 constructor
 all_goals
  refine⟨ir,ir,λj a=>?_⟩
  obtain rfl:j=0:=by simpa using a
  exact⟨_,rfl,an,an,λu h=>absurd h an,ah9⟩
def zEl[bJ G](i:Nat)(hi:i<34):FP G 109 [.int .i64 164,FV [(i:Int)] [0,ones],FV [] [ones]] (.bc [FV [(i:Int)] [ones,0],.bool true]):=by
 obtain⟨a,b⟩:=zoC i hi;have c:Right [] [ones]:=⟨ir,ir,λj d=>by simp at d⟩
 exact zNp (by infer_instance) ⟨ah9,a,c,by simp[fy]⟩ (by simp[ones]) (by simp[ones]) b λp=>by cases h:p (i:Int)<;>simp[dm,idx,h,cC,ones]
def zBR[au G][bJ G][aN G](x:Nat)(a:Nd)(h:Bk H b z m L)(A:L[x]?=some a)(hn:a.kind=1->a.n<=4)(B:∀c∈a.f,c<4294967296):SF G 265 [.ptr b 0,.int .i64 x] H (sZ (gK a)) H:=by
 refine kr aN.aeL (aaa rfl) ?_;have Y:=h.lb;have hb:=h.cU
 have P:∀r:ae,(H++r)[b]?=some (some (.cells [.vs (sR L) (.own z),.mp m])):=λr=>by rw[aah Y];exact hb
 have Q:=Ze A;have l:=h.ok a (aao A);have q:=Nd.len l;have R:a.cs.take 60=a.cs:=aai an;have S:sQ.cs.drop 60=[]:=rfl;have T:sQ.cs.length=60:=rfl;have u:=h.shut.back;have g0:a.cs.head?=some (.int .i64 a.kind):=rfl;have U:a.cs.take 1=[.int .i64 a.kind]:=rfl
 have Z:a.cs=(.int .i64 (a.kind:Int)::ax .u32 a.f)++(.int .i64 (a.n:Int)::(ax .i64 a.vars++(ax .u32 a.tab++[.int .i64 a.op,.int .i64 a.x,.int .i64 a.y]))):=by simp[Nd.cs]
 have ha:(V.int .i64 (a.kind:Int)::ax .u32 a.f).length=36:=by simp[l.1]
 have C:a.cs.drop 36=.int .i64 (a.n:Int)::(ax .i64 a.vars++(ax .u32 a.tab++[.int .i64 a.op,.int .i64 a.x,.int .i64 a.y])):=by rw[Z];exact abI ha
 have D:a.cs.drop 37=ax .i64 a.vars++(ax .u32 a.tab++[.int .i64 a.op,.int .i64 a.x,.int .i64 a.y]):=by rw[show 37=36+1 from rfl,<-abc,C];rfl
 have he:a.cs.drop 41=ax .u32 a.tab++[.int .i64 a.op,.int .i64 a.x,.int .i64 a.y]:=by rw[show 41=37+4 from rfl,<-abc,D];exact abI (by simp[l.2.1])
 have hf:(a.cs.drop 36).take 1=[.int .i64 a.n]:=by rw[C];rfl
 have hh:(a.cs.drop 1).take 35=ax .u32 a.f:=by show(ax .u32 a.f++_).take 35=_;rw[abk (by simp[l.1])]
 have E:a.cs.tail.take 35=ax .u32 a.f:=by rw[<-acZ];exact hh
 have ni:(H.length=b)=False:=ah8;have hr:(b=H.length)=False:=ah8
 by_cases s:a.kind=1
 .have F:((a.kind:Int)==1)=true:=D7 an;have I:=hn s;have hm:((a.n:Int)<=4)=True:=ah7;have Pv:2^a.n<=16:=aby (n:=2) ah9 I;obtain⟨w,B⟩:=bb (2^a.n)
  have fM:jz .i64 1 (a.n:Int)=(w:Int):=by rw[B];exact vS an
  rw[<-B] at Pv;have vF:((a.n:Int)<0)=False:=ah8
  have oD:a.cs.all V.pure=true:=by simp[Nd.cs,ax,V.pure]
  have zA:qa 1 a.n (a.cs.drop 37)=ints .i64 ((a.vars.take a.n).map fun(x:Nat)=>(x:Int)):=by rw[D,zmc _ _ _ _ (by rw[l.2.1];exact I),XT];rfl
  have uH:qa 1 w (a.cs.drop 41)=aq .u32 (a.tab.take w):=by rw[he,zmc _ _ _ _ (by rw[l.2.2];exact Pv)]
  have o:gK a=some ((a.vars.take a.n).map fun(x:Nat)=>(x:Int),a.tab.take w):=by rw[gK,if_pos s,B]
  have Pw:((w:Int)<=16)=True:=ah7;simp(disch:=omega)[nz,hm,fM,Pw,vF,oD,zA,uH,o,sZ,FV,u,P,Q,q,R,S,T,ll,iG,aB,leFn,U,hf,F]
 .have F:((a.kind:Int)==1)=false:=aG an
  by_cases J:a.kind=0
  .have W:((a.kind:Int) !=0)=false:=Bv an;have xm:=TX (G:=G) a.f l.1;have xk:=eA (k:=.u32) l.1;have fM:∀r:List ay,True:=λ_=>trivial
   cases v:pB a.f with
   | some c =>
    have o:gK a=some ([],[c]):=by rw[gK,if_neg s,if_pos J,v]
    simp(disch:=omega)[-aak,nz,W,o,sZ,FV,P,Q,q,R,S,T,ll,iG,aB,leFn,U,E,F];refine aw xm ?_;simp(disch:=omega)[-aak,v];refine aw (zvE (by infer_instance) c) ?_
    simp(disch:=omega)[-aak,FV,u,ll]
   | none =>
    have X:(fF (ones::aR 34) a.f).length=35:=by simp[fF,l.1]
    obtain⟨d,yY⟩:∃d,d=fF (ones::aR 34) a.f:=⟨_,rfl⟩;have K:=zsS (G:=G) (ones::aR 34) a.f ir l.1 B;rw[<-yY] at X K;have Bc:=eA (k:=.u32) X;have rU:(ax .u32 (aR 35)).drop 35=[]:=rfl;simp(disch:=omega)[-aak,nz,W,P,Q,q,R,S,T,ll,iG,aB,leFn,U,E,F];refine aw xm ?_;simp(disch:=omega)[-aak,v];refine aw (Y9 4294967295) ?_;simp(disch:=omega)[-aak,q,iG,aB,leFn,E];refine aw K ?_
    simp(disch:=omega)[-aak,q,iG,aB,leFn,E,X,Bc,l.1,rU]
    have h3:Bk (H++[some (.cells [.vs [] .full,.vs [] .full]),some (.cells a.cs),some (.cells (ax .u32 d))]) b z m L:=h.app λn=>by simp[ay.cl,aZ,V.cl,Nd.mb]
    have tV:=h3.shut.back;have M:=h3.shut.self;simp at tV M;have ia:(((abC 2 (ax .u32 (aR 35))).set 0 (ax .u32 a.f)).set 1 (ax .u32 d))=[ax .u32 a.f,ax .u32 d]:=rfl;rw[ia]
    refine aO 2 (λi=>[(4,.ptr H.length 0),(6,.ptr (H.length+1) 0),(56,.vs [ax .u32 a.f,ax .u32 d] .full),(57,.int .i64 2),(58,.int .i64 i)]) (λ_=>H++[some (.cells [.vs [] .full,.vs [] .full]),some (.cells a.cs),some (.cells (ax .u32 d))])
     (λi=>(0<i->nN a.f=none)/\(1<i->nN d=none)) ?_ ?_
    .simp[av,M]
    intro i hi N
    by_cases Y:i<2
    .obtain⟨g,eM,O,TT⟩:∃g,[ax .u32 a.f,ax .u32 d][i]?=some (ax .u32 g)/\g.length=35/\(i=0/\g=a.f\/i=1/\g=d):=by
      rcases(show i=0\/i=1 by omega) with rfl|rfl
      .exact⟨a.f,rfl,l.1,.inl ⟨rfl,rfl⟩⟩
      .exact⟨d,rfl,X,.inr ⟨rfl,rfl⟩⟩
     have ho:=zGJ (G:=G) g O;have kM:=eA (k:=.u32) O;have yr:([ax .u32 a.f,ax .u32 d][i]'(by simp;omega))=ax .u32 g:=(aaf.1 eM).2;have p:=IE .u32 (n:=35) (a:=g) (b:=a.f) O l.1
     have hq:∀(r:ae),ak (H.length+3) (H++some (.cells [.vs [] .full,.vs [] .full])::some (.cells a.cs)::some (.cells (ax .u32 d))::r)=H++[some (.cells [.vs [] .full,.vs [] .full]),some (.cells a.cs),some (.cells (ax .u32 d))]:=λr=>by
      have:=h3.shut.back r;simpa using this
     simp(disch:=omega)[-aak,bC,yr,O,kM,rU,iG,leFn];refine aw ho ?_
     cases t:nN g with
     | none =>
      have iM:nN a.f=none/\(0<i->nN d=none):=by
       rcases TT with⟨rfl,rfl⟩|⟨rfl,rfl⟩
       .exact⟨t,λh=>by omega⟩
       .exact⟨N.1 an,λ_=>t⟩
      simp(disch:=omega)[-aak,Y,-aab,bA,av,iM,hq]
      exact iM.2
     | some j =>
      have hj:j<34:=by have:=abz t;exact acm.1 this
      have hv:=zH2 (G:=G) (by infer_instance) (j:Int);rw[if_pos ⟨an,an⟩] at hv;simp(disch:=omega)[-aak];refine aw hv ?_;simp(disch:=omega)[FV,-aak,O,kM,iG,aB,leFn,E,q]
      rcases TT with⟨rfl,rfl⟩|⟨rfl,rfl⟩
      .have o:gK a=some ([(j:Int)],[0,ones]):=by rw[gK,if_neg s,if_pos J,v];simp only[t]
       simp only[decide_true] at p;simp(disch:=omega)[o,sZ,FV,ones,u,-aak,p,ll,iG,leFn]
      .have Jg:g≠a.f:=λe=>by rw[e,N.1 an] at t;cases t
       have o:gK a=some ([(j:Int)],[ones,0]):=by rw[gK,if_neg s,if_pos J,v];simp only[N.1 an,<-yY,t]
       rw[decide_eq_false Jg] at p;simp(disch:=omega)[o,sZ,FV,ones,-aak,p,iG,leFn];refine aw (zvE (by infer_instance) 4294967295) ?_;simp(disch:=omega)[FV,-aak];have A:=zEl (G:=G) j hj;simp only[FV,ones] at A;refine aw A ?_;simp(disch:=omega)[u,-aak,ll,iG,leFn]
    .obtain rfl:i=2:=by omega
     have h1:=N.1 an;have h2:=N.2 an
     have o:gK a=none:=by rw[gK,if_neg s,if_pos J,v];simp only[h1,<-yY,h2]
     simp(disch:=omega)[-aak,o,sZ,u,ll]
  .have o:gK a=none:=by rw[gK,if_neg s,if_neg J]
   have W:((a.kind:Int) !=0)=true:=ki an;simp(disch:=omega)[-aak,nz,W,o,sZ,u,P,Q,q,R,S,T,ll,iG,aB,leFn,U,F]
def Nd.wf(a:Nd):Prop:=(∀c∈a.f,c<4294967296)/\(a.kind=1->Right ((a.vars.take a.n).map fun(x:Nat)=>(x:Int)) (a.tab.take (2^a.n))/\a.n<=4/\∀w∈a.tab,w<4294967296)
def qI(a:Nd):Option Nat:=if a.kind=0 then pB a.f else none
def Px[aN G](x:Nat)(a:Nd)(h:Bk H b z m L)(c:L[x]?=some a):SF G 264 [.ptr b 0,.int .i64 x] H (.bc [.agg (ax .u32 a.f),.bool (decide (a.kind=0))]) H :=
 ⟨_,_,zDL x a h c,ir,h.shut.back _⟩
def Jq[aN G](i:Int)(h:Bk H b z m L):SF G 258 [.ptr b 0,.int .i64 i] H (.bool (cE L i)) H :=
 ⟨_,_,zId i h,rfl,h.shut.self⟩
def dw(L:List Nd)(i:Int):Option Nat:=if cE L i then(L[i.toNat]?).bind qI else none
def zoD[au G][aN G](i:Int)(h:Bk H b z m L):SF G 266 [.ptr b 0,.int .i64 i] H (.bc [.int .u32 ((dw L i).getD 0:Nat),.bool (dw L i).isSome]) H:=by
 refine kr aN.aeM (aaa rfl) ?_;have l:=h.shut.back;have p:=h.shut.self;have o:(ax .u32 (aR 35)).drop 35=[]:=rfl;simp;refine cP (Jq i h) ?_;cases hi:cE L i
 .simp[p,dw,hi]
 .obtain⟨q,u⟩:0<=i/\i<L.length:=by simpa[cE] using hi
  obtain⟨n,rfl⟩:=aaF q
  have s:n<L.length:=an
  obtain⟨a,e⟩:∃a,L[n]?=some a:=⟨_,lf s⟩;have c:=h.ok a (aao e);have t:=eA (k:=.u32) c.1
  have g:dw L n=qI a:=by simp[dw,hi,e]
  rw[g];simp;refine cP (Px n a (h.app (r:=[none]) λn=>by simp) e) ?_
  by_cases d:a.kind=0
  .have j:qI a=pB a.f:=by rw[qI,if_pos d]
   simp[d,j,o,c.1,t];refine aw (TX a.f c.1) ?_;simp[l]
  .have j:qI a=none:=by rw[qI,if_neg d]
   simp[d,j,o,c.1,l]
abbrev R3:=Int×Bool×List Nd
def mW(p:Int×List Nd):R3:=(p.1,true,p.2)
def lu(L:List Nd):R3:=(0,false,L)
def ko(L:List Nd)(kind:Int)(a c:Nd):R3 :=
 if a.kind=0/\c.kind=0 then
  if kind=4 then mW (bj L (fe (j9 a.f c.f)))
  else if kind=20 then mW (bj L (fe (fF a.f c.f)))
  else match pB a.f,pB c.f with
   | some u,some v=>if kind=36 then mW (bj L (fe (eG a.f v))) else if kind=100 then mW (bj L (fe (eG a.f (cC 100 1 v).1)))
    else((bj L (fe ((cC kind u v).1::aR 34))).1,(cC kind u v).2,(bj L (fe ((cC kind u v).1::aR 34))).2)
   | none,some v=>if kind=36 then mW (bj L (fe (eG a.f v))) else if kind=100 then mW (bj L (fe (eG a.f (cC 100 1 v).1))) else lu L
   | some u,none=>if kind=36 then mW (bj L (fe (eG c.f u))) else lu L
   | none,none=>lu L
 else lu L
def BF3(G:aL)(f:Nat)(args:List V)(H:ae)(b z m:Nat)(p:R3):Prop:=SF G f (.ptr b 0::args) H (.bc [.int .i64 p.1,.bool p.2.1]) (dE H b z m p.2.2)
def y0{f:List Nat}{c:Nat}(h:pB f=some c)(a:∀x∈f,x<4294967296):c<4294967296:=by
 rw[pB] at h;split at h
 .exact a c (List.mem_of_mem_head? h)
 .cases h
def zGK[dT G][au G][aN G](kind:Int)(x y:Nat)(a c:Nd)(h:Bk H b z m L)(q:L.length<1000000)(S:L[x]?=some a)(T:L[y]?=some c)(V:a.wf)(N:c.wf) :
  BF3 G 267 [.int .i64 kind,.int .i64 x,.int .i64 y] H b z m (ko L kind a c):=by
 refine kr aN.aeN (aaa rfl) ?_;have U:(ax .u32 (aR 35)).drop 35=[]:=rfl;have e:=h.ok a (aao S);have l:=h.ok c (aao T);have B:=eA (k:=.u32) e.1;have J:=eA (k:=.u32) l.1
 have W:Bk (H++[some (.cells (ax .u32 a.f))]) b z m L:=h.app λn=>by simp[ay.cl]
 have p:Bk (H++[some (.cells (ax .u32 a.f)),some (.cells (ax .u32 c.f))]) b z m L:=h.app λn=>by simp[ay.cl]
 have C:=h.shut.back;have X:=W.shut.self;have Y:=p.shut.self;have s:∀L',dE (H++[some (.cells (ax .u32 a.f)),some (.cells (ax .u32 c.f))]) b z m L'=dE H b z m L'++[some (.cells (ax .u32 a.f)),some (.cells (ax .u32 c.f))]:=λL'=>h.cA _ L';have t:∀L' r,ak H.length (dE H b z m L'++r)=dE H b z m L':=λL' r=>h.back L' r;have D:=h.gA;simp at X Y;simp;refine cP (Px x a (h.app (r:=[none]) λn=>by simp) S) ?_
 simp[U,e.1];refine cP (Px y c (h.app (r:=[some (.cells (ax .u32 a.f)),none]) λn=>by simp[ay.cl]) T) ?_;simp[U,l.1]
 by_cases g:a.kind=0
 case neg=>simp[g,ko,lu,D,C]
 by_cases o:c.kind=0
 case neg=>simp[g,o,ko,lu,D,C]
 have Z:=TX (G:=G) a.f e.1;have xm:=TX (G:=G) c.f l.1;simp[g,o,e.1,B,leFn];refine aw Z ?_;simp[l.1,J,aB,leFn];refine aw xm ?_;simp
 have Ox:(fF a.f c.f).length=35:=by simp[fF,e.1,l.1]
 have zO:(j9 a.f c.f).length=35:=by simp[j9,e.1,l.1]
 have O:∀k,(eG a.f k).length=35:=λk=>by simp[eG,e.1]
 have P:∀k,(eG c.f k).length=35:=λk=>by simp[eG,l.1]
 by_cases E:kind=4
 .subst E
  have d:ko L 4 a c=mW (bj L (fe (j9 a.f c.f))):=by simp[ko,g,o]
  simp[e.1,B,l.1,J,aB,leFn];refine aw (zGI a.f c.f e.1 l.1) ?_;simp;refine cP (Dm (j9 a.f c.f) zO p q) ?_;simp[s,t,d,mW,bj]
 by_cases F:kind=20
 .subst F
  have d:ko L 20 a c=mW (bj L (fe (fF a.f c.f))):=by simp[ko,g,o]
  simp[e.1,B,l.1,J,aB,leFn];refine aw (zsS a.f c.f e.1 l.1 N.1) ?_;simp;refine cP (Dm (fF a.f c.f) Ox p q) ?_;simp[s,t,d,mW,bj]
 by_cases I:kind=36
 .subst I
  cases i:pB a.f<;>cases j:pB c.f
  .have d:ko L 36 a c=lu L:=by simp[ko,g,o,i,j]
   simp[d,lu,D,C]
  .rename_i v
   have d:ko L 36 a c=mW (bj L (fe (eG a.f v))):=by simp[ko,g,o,i,j]
   simp[e.1,B,leFn];refine aw (TW a.f v e.1) ?_;simp;refine cP (Dm (eG a.f v) (O v) p q) ?_;simp[s,t,d,mW,bj]
  .rename_i u
   have d:ko L 36 a c=mW (bj L (fe (eG c.f u))):=by simp[ko,g,o,i,j]
   simp[l.1,J,aB,leFn];refine aw (TW c.f u l.1) ?_;simp;refine cP (Dm (eG c.f u) (P u) p q) ?_;simp[s,t,d,mW,bj]
  .rename_i u v
   have d:ko L 36 a c=mW (bj L (fe (eG a.f v))):=by simp[ko,g,o,i,j]
   simp[e.1,B,leFn];refine aw (TW a.f v e.1) ?_;simp;refine cP (Dm (eG a.f v) (O v) p q) ?_;simp[s,t,d,mW,bj]
 have Q:(kind==4)=false:=aG E;have w:(kind==20)=false:=aG F;have A:(kind==36)=false:=aG I
 by_cases K:kind=100
 .subst K
  cases j:pB c.f with
  | none =>
   have d:ko L 100 a c=lu L:=by cases i:pB a.f<;>simp[ko,g,o,i,j]
   cases i:pB a.f<;>simp[d,lu,D,C]
  | some v =>
   have d:ko L 100 a c=mW (bj L (fe (eG a.f (cC 100 1 v).1))):=by cases i:pB a.f<;>simp[ko,g,o,i,j]
   have M:=K_ (G:=G) (by infer_instance) 100 1 v ah9 (y0 j N.1);simp at M;simp;refine aw M ?_;simp[e.1,B,leFn];refine aw (TW a.f (cC 100 1 v).1 e.1) ?_;simp;refine cP (Dm (eG a.f (cC 100 1 v).1) (O _) p q) ?_;simp[s,t,d,mW,bj]
 have R:(kind==100)=false:=aG K
 cases i:pB a.f with
 | none =>
  have d:ko L kind a c=lu L:=by cases j:pB c.f<;>simp[ko,g,o,i,j,E,F,I,K]
  simp[Q,w,A,R,d,lu,D,C]
 | some u =>
  cases j:pB c.f with
  | none =>
   have d:ko L kind a c=lu L:=by simp[ko,g,o,i,j,E,F,I]
   simp[Q,w,A,R,d,lu,D,C]
  | some v =>
   have d:ko L kind a c=((bj L (fe ((cC kind u v).1::aR 34))).1,(cC kind u v).2,(bj L (fe ((cC kind u v).1::aR 34))).2):=by simp[ko,g,o,i,j,E,F,I,K]
   have M:=K_ (G:=G) (by infer_instance) kind u v (y0 i V.1) (y0 j N.1);simp[Q,w,A,R];refine aw M ?_;simp;refine cP (LL (cC kind u v).1 p q) ?_;simp[s,t,d,bj]
def TZ{f:List Nat}{i:Nat}(h:nN f=some i):i<34:=acm.1 (abz h)
def Js{a:Nd}{p:List Int×List Nat}(d:a.wf)(h:gK a=some p):Right p.1 p.2/\∀w∈p.2,w<4294967296:=by
 rw[gK] at h;split at h
 .rename_i e;obtain⟨f,m,g⟩:=d.2 e;cases h;exact⟨f,λw b=>g w (aaQ b)⟩
 .split at h
  .split at h
   .rename_i c k;cases h;exact⟨⟨ir,ir,λj l=>by simp at l⟩,λw b=>by rw[aaH.1 b];exact y0 k d.1⟩
   .split at h
    .rename_i i hi;cases h;exact⟨(zoC i (TZ hi)).1,by simp[ones]⟩
    .split at h
     .rename_i i hi;cases h;exact⟨(zoC i (TZ hi)).2,by simp[ones]⟩
     .cases h
  .cases h
open Classical in
noncomputable def z9(kind:Int)(p q:List Int×List Nat):Option (List Int×List Nat) :=
 if h:pN kind p.1 q.1 p.2 q.2/\∃r:List Int×List Nat,Right r.1 r.2/\(∀w∈r.2,w<4294967296)/\∀s,dm r.1 r.2 s=(cC kind (dm p.1 p.2 s) (dm q.1 q.2 s)).1 then some (Classical.choose h.2) else none
def E5(o:Option (List Int×List Nat)):V:=match o with
 | some p=>.bc [FV p.1 p.2,.bool true]
 | none=>.bc [FV [] [],.bool false]
def T3{kind:Int}{p q r:List Int×List Nat}(h:z9 kind p q=some r):pN kind p.1 q.1 p.2 q.2/\Right r.1 r.2/\(∀w∈r.2,w<4294967296)/\∀s,dm r.1 r.2 s=(cC kind (dm p.1 p.2 s) (dm q.1 q.2 s)).1:=by
 rw[z9] at h;split at h
 .rename_i a;cases h;exact⟨a.1,Classical.choose_spec a.2⟩
 .cases h
def zIp[j:bJ G](kind:Int)(p q:List Int×List Nat)(c:Right p.1 p.2)(d:Right q.1 q.2)(k:∀w∈p.2,w<4294967296)(l:∀w∈q.2,w<4294967296) :
  FP G 109 [.int .i64 kind,FV p.1 p.2,FV q.1 q.2] (E5 (z9 kind p q))/\(z9 kind p q=none->¬pN kind p.1 q.1 p.2 q.2):=by
 have b:=c.1;have m:=d.1;have y:=CV b c.2.1;have z:=CV m d.2.1;obtain⟨r,f,h|⟨n,o,t,rfl,g,u,i⟩⟩:=zFu j kind p.1 q.1 p.2 q.2 an an an an k l
 .have e:z9 kind p q=none:=by rw[z9,dif_neg (λa=>h.1 a.1)]
  rw[e];obtain⟨b,rfl⟩:=h;exact⟨f,λ_=>b⟩
 .have a:pN kind p.1 q.1 p.2 q.2/\∃r:List Int×List Nat,Right r.1 r.2/\(∀w∈r.2,w<4294967296)/\∀s,dm r.1 r.2 s=(cC kind (dm p.1 p.2 s) (dm q.1 q.2 s)).1:=⟨n,(o,t),g,u,i⟩
  have e:z9 kind p q=some (Classical.choose a.2):=by rw[z9,dif_pos a]
  obtain⟨_,R,W,S⟩:=T3 e;rw[e];refine⟨?_,λh=>by cases h⟩
  obtain⟨v,x⟩:=zFt g R λs=>by rw[i,S]
  rw[E5,<-v,<-x];exact f
noncomputable def ly(L:List Nd)(kind:Int)(a c:Nd):R3 :=
 match gK a,gK c with
 | some p,some q=>(match z9 kind p q with|some r=>mW (tT L r.1 r.2)|none=>lu L)
 | _,_=>lu L
def Ju[au G][bJ G][aN G](x:Nat)(a:Nd)(h:Bk H b z m L)(d:L[x]?=some a)(c:a.wf):SF G 265 [.ptr b 0,.int .i64 x] H (sZ (gK a)) H :=
 zBR x a h d (λe=>(c.2 e).2.1) c.1
def mF(o:Option (List Int×List Nat)):List V:=match o with
 | some p=>[.vs (ints .i64 p.1) .no,.vs (aq .u32 p.2) .no]
 | none=>[.vs [] .full,.vs [] .full]
def LM(o:Option (List Int×List Nat)):sZ o=.bc [.agg (mF o),.bool o.isSome]:=by cases o<;>rfl
def LN(o:Option (List Int×List Nat)):(mF o).length=2:=by cases o<;>rfl
def LO(o:Option (List Int×List Nat))(n:Nat):aZ n (mF o)=mF o:=by cases o<;>simp[mF,aZ,V.cl]
def zEm[au G][bJ G][aN G](kind:Int)(x y:Nat)(a c:Nd)(h:Bk H b z m L)(u:L.length<1000000)(v:L[x]?=some a)(w:L[y]?=some c)(k:a.wf)(l:c.wf) :
  BF3 G 268 [.int .i64 kind,.int .i64 x,.int .i64 y] H b z m (ly L kind a c):=by
 refine kr aN.aeO (aaa rfl) ?_
 have A:Bk (H++[some (.cells (mF (gK a)))]) b z m L:=h.app λn=>by simp[ay.cl,LO]
 have o:Bk (H++[some (.cells (mF (gK a))),some (.cells (mF (gK c)))]) b z m L:=h.app λn=>by simp[ay.cl,LO]
 have g:=h.shut.back;have B:=A.shut.self;have s:=o.shut.self;have C:∀L' r,ak H.length (dE H b z m L'++r)=dE H b z m L':=λL' r=>h.back L' r;have i:=h.gA;simp at B s;simp;refine cP (Ju x a (h.app (r:=[none]) λn=>by simp) v k) ?_;simp[LM,LN];refine cP (Ju y c (h.app (r:=[some (.cells (mF (gK a))),none]) λn=>by simp[ay.cl,LO]) w l) ?_;simp[LM,LN]
 cases e:gK a with
 | none => 
  have d:ly L kind a c=lu L:=by simp[ly,e]
  simp[d,lu,i,g]
 | some p =>
  cases f:gK c with
  | none =>
   have d:ly L kind a c=lu L:=by simp[ly,e,f]
   simp[d,lu,i,g]
  | some q =>
   obtain⟨D,E⟩:=Js k e;obtain⟨F,I⟩:=Js l f;obtain⟨t,M⟩:=zIp (G:=G) kind p q D F E I;simp[e,f] at s o;simp[mF];simp only[FV] at t;refine aw t ?_
   cases j:z9 kind p q with
   | none =>
    have d:ly L kind a c=lu L:=by simp[ly,e,f,j]
    simp[E5,FV,d,lu,i,g]
   | some r =>
    have d:ly L kind a c=mW (tT L r.1 r.2):=by simp[ly,e,f,j]
    simp[E5,FV,d,mW]
    have J:Bk (H++[some (.cells [.vs (ints .i64 p.1) .no,.vs (aq .u32 p.2) .no]),some (.cells [.vs (ints .i64 q.1) .no,.vs (aq .u32 q.2) .no]),some (.cells [.vs (ints .i64 r.1) .no,.vs (aq .u32 r.2) .no])]) b z m L :=
     h.app λn=>by simp[ay.cl,aZ,V.cl]
    have K:=h.cA [some (.cells [.vs (ints .i64 p.1) .no,.vs (aq .u32 p.2) .no]),some (.cells [.vs (ints .i64 q.1) .no,.vs (aq .u32 q.2) .no]),some (.cells [.vs (ints .i64 r.1) .no,.vs (aq .u32 r.2) .no])] (tT L r.1 r.2).2;refine cP (zEk r.1 r.2 (T3 j).2.1 J u) ?_;simp[K,C]
def kQ(kind:Int)(a:Option Nat)(x y:Int):Int×Bool :=
 if kind=4\/kind=20\/kind=100\/kind=116 then(x,decide (a=some 0)) else if kind=68 then(x,decide (a=some 0)||decide (x=y)) else if kind=164 then(x,decide (a=some 0))
 else if kind=84 then(x,decide (a=some ones)||decide (x=y)) else(0,false)
def zt9[au G][aN G](kind x y:Int)(h:Bk H b z m L) :
  SF G 269 [.ptr b 0,.int .i64 kind,.int .i64 x,.int .i64 y] H (.bc [.int .i64 (kQ kind (dw L y) x y).1,.bool (kQ kind (dw L y) x y).2]) H:=by
 refine kr aN.aeP (aaa rfl) ?_;have a:=h.shut.self;simp;refine cP (zoD y h) ?_
 have l:((x==y):Bool)=decide (x=y):=by rw[aba];simp
 have n:∀(u w:Bool),u=decide (dw L y=some 0)->w=decide (dw L y=some ones)->True:=λ_ _ _ _=>trivial
 cases s:dw L y with
 | none =>
  simp
  by_cases d:kind=4
  .subst d;simp[a,kQ]
  by_cases e:kind=20
  .subst e;simp[a,kQ]
  by_cases f:kind=100
  .subst f;simp[a,kQ]
  by_cases g:kind=116
  .subst g;simp[a,kQ]
  by_cases i:kind=68
  .subst i;simp[a,kQ,l]
  by_cases j:kind=164
  .subst j;simp[a,kQ]
  by_cases k:kind=84
  .subst k;simp[a,kQ,l]
  simp[a,kQ,aG d,aG e,aG f,aG g,aG i,aG j,aG k,d,e,f,g,i,j,k]
 | some c =>
  have q:((c:Int)==0)=decide (c=0):=by rw[aba];simp
  have r:((c:Int)==4294967295)=decide (c=4294967295):=by rw[aba];simp;omega
  simp[q,r]
  by_cases d:kind=4
  .subst d;simp[a,kQ]
  by_cases e:kind=20
  .subst e;simp[a,kQ]
  by_cases f:kind=100
  .subst f;simp[a,kQ]
  by_cases g:kind=116
  .subst g;simp[a,kQ]
  by_cases i:kind=68
  .subst i
   by_cases o:c=0
   .simp[a,kQ,o]
   .simp[a,kQ,l,o]
  by_cases j:kind=164
  .subst j;simp[a,kQ]
  by_cases k:kind=84
  .subst k
   by_cases p:c=4294967295
   .simp[a,kQ,p,ones]
   .simp[a,kQ,l,p,ones]
  simp[a,kQ,aG d,aG e,aG f,aG g,aG i,aG j,aG k,d,e,f,g,i,j,k]
variable {L:List Nd}
def Nd.cO(n:Nat)(a:Nd):Prop:=a.ok/\a.wf/\(a.kind=0\/a.kind=1\/a.kind=2/\a.x<n/\a.y<n/\(cC a.op 0 1).2=true)
structure Inv (L:List Nd):Prop where
 cO:∀(i:Nat) (a:Nd),L[i]?=some a->a.cO i
 one:L.Nodup
def Inv.ok(h:Inv L):∀a∈L,a.ok:=λa b=>by obtain⟨i,hi⟩:=abd b;exact(h.cO i a hi).1
def Inv.wf(h:Inv L):∀a∈L,a.wf:=λa b=>by obtain⟨i,hi⟩:=abd b;exact(h.cO i a hi).2.1
def Inv.nil:Inv []:=⟨λi a h=>by simp at h,List.nodup_nil⟩
structure Ext (L L':List Nd) (k:Nat):Prop where
 pre:L <+: L'
 inv:Inv L'
 len:L'.length<=L.length+k
def Ext.refl(h:Inv L)(k:Nat):Ext L L k:=⟨adt L,h,an⟩
def Ext.trans{L' L'':List Nd}{k l:Nat}(h:Ext L L' k)(a:Ext L' L'' l):Ext L L'' (k+l):=⟨h.pre.trans a.pre,a.inv,by have:=h.len;have:=a.len;omega⟩
def Ext.mono{L':List Nd}{k l:Nat}(h:Ext L L' k)(a:k<=l):Ext L L' l:=⟨h.pre,h.inv,by have:=h.len;omega⟩
def zyr{α:Type}{l b:List α}(h:l <+: b){i:Nat}{a:α}(hi:l[i]?=some a):b[i]?=some a:=by obtain⟨t,rfl⟩:=h;rw[aah (aaf.1 hi).1];exact hi
def Ext.get{L':List Nd}{k i:Nat}{a:Nd}(h:Ext L L' k)(hi:L[i]?=some a):L'[i]?=some a:=zyr h.pre hi
def wX(h:Inv L){a:Nd}(f:a.cO L.length):Ext L (bj L a).2 1/\∃i:Nat,(bj L a).1=i/\(bj L a).2[i]?=some a:=by
 by_cases c:a∈L
 .have e:(bj L a).2=L:=by show iW L a=L;rw[iW,if_pos c]
  refine⟨by rw[e];exact .refl h 1,L.idxOf a,rfl,?_⟩;rw[e,aae (List.idxOf_lt_length_of_mem c),List.getElem_idxOf]
 .have e:(bj L a).2=L++[a]:=by show iW L a=_;rw[iW,if_neg c]
  have g:(bj L a).1=(L.length:Nat):=by show((L.idxOf a:Nat):Int)=_;rw[ztM c]
  refine⟨⟨by rw[e];exact ade _ _,?_,by rw[e];simp⟩,L.length,g,by rw[e];simp⟩;rw[e];refine⟨λi x b=>?_,?_⟩
  .by_cases hi:i<L.length
   .rw[aah hi] at b;exact h.cO i x b
   .have j:=(aaf.1 b).1;simp at j
    obtain rfl:i=L.length:=by omega
    simp at b;subst b;exact f
  .rw[aa1];exact⟨h.one,ir,λx b y d e'=>by simp at d;rw[<-d,<-e'] at c;exact c b⟩
def z_{f:List Nat}(a:f.length=35)(b:∀c∈f,c<4294967296)(n:Nat):(fe f).cO n:=⟨⟨a,rfl,rfl⟩,⟨b,λh=>by cases h⟩,.inl rfl⟩
def x7(n:Nat):∀c∈aR n,c<4294967296:=λc a=>by rw[aR,adb] at a;omega
def Dq{c:Nat}(b:c<4294967296):∀x∈c::aR 34,x<4294967296:=λx a=>by
 rcases aa7.1 a with rfl|a
 .exact b
 .exact x7 34 x a
def zsT(i:Nat):∀x∈cJ i,x<4294967296:=λx a=>by
 rw[cJ] at a
 rcases acw a with a|rfl
 .exact x7 35 x a
 .omega
def T4(i:Nat):(cJ i).length=35:=by simp[cJ]
def zwg{o:Nat->Nat->Nat}(d:∀a b,o a b<4294967296):∀(f g:List Nat),∀x∈aaY o f g,x<4294967296
 | [],_,x,c=>by simp at c
 | _::_,[],x,c=>by simp at c
 | a::f,b::g,x,c=>by
  simp only[abM,aa7] at c
  rcases c with rfl|c
  .exact d a b
  .exact zwg d f g x c
def zys(f g:List Nat):∀x∈j9 f g,x<4294967296:=zwg (λa b=>acX _ ah9) f g
def zsU(f g:List Nat):∀x∈fF f g,x<4294967296:=zwg (λa b=>acX _ ah9) f g
def GU(f:List Nat)(k:Nat):∀x∈eG f k,x<4294967296:=λx a=>by
 obtain⟨y,_,rfl⟩:=aan.1 a;exact acX _ ah9
def zwh{f g:List Nat}(a:f.length=35)(b:g.length=35):(j9 f g).length=35:=by simp[j9,a,b]
def zqJ{f g:List Nat}(a:f.length=35)(b:g.length=35):(fF f g).length=35:=by simp[fF,a,b]
def GV{f:List Nat}(k:Nat)(a:f.length=35):(eG f k).length=35:=by simp[eG,a]
def zrR{fv:List Int}{ft:List Nat}(h:∀v∈fv,0<=v)(a:ft.length=2^fv.length):((wj fv ft).vars.take (wj fv ft).n).map (fun(x:Nat)=>(x:Int))=fv/\(wj fv ft).tab.take (2^(wj fv ft).n)=ft:=by
 constructor
 .show((fv.map ab2++aR (4-fv.length)).take fv.length).map _=fv;rw[abk ir,acf]
  conv=>rhs;rw[<-List.map_id fv]
  exact acg λv b=>by have:=h v b;simp;omega
 .show(ft++aR (16-ft.length)).take (2^fv.length)=ft;rw[<-a];exact abk rfl
def zwi{fv:List Int}{ft:List Nat}(h:Right fv ft):∀v∈fv,0<=v:=λv c=>by
 obtain⟨j,a,rfl⟩:=ac2 c;obtain⟨w,b,d,_⟩:=h.2.2 j a;rw[aae a] at b;cases b;exact d
def zEn{fv:List Int}{ft:List Nat}(h:Right fv ft)(d:∀c∈ft,c<4294967296)(n:Nat):(wj fv ft).cO n:=by
 have a:=h.1
 have g:ft.length<=16:=by rw[h.2.1];exact aby (n:=2) ah9 a
 obtain⟨e,f⟩:=zrR (zwi h) h.2.1;refine⟨⟨rfl,by simp[wj];omega,by simp[wj];omega⟩,⟨x7 35,λ_=>⟨?_,a,?_⟩⟩,.inr (.inl rfl)⟩
 .rw[e,f];exact h
 .intro w b;simp only[wj,aaq] at b
  rcases b with h|h
  .exact d w h
  .exact x7 _ w h
def zGL:∀i,i<34->gK (fe (cJ i))=some ([(i:Int)],[0,ones])/\gK (fe (fF (ones::aR 34) (cJ i)))=some ([(i:Int)],[ones,0]):=by decide +kernel
def zwj(h:Inv L){fv:List Int}{ft:List Nat}(d:Right fv ft)(o:∀c∈ft,c<4294967296):Ext L (tT L fv ft).2 1/\∃(i:Nat) (a:Nd),(tT L fv ft).1=i/\(tT L fv ft).2[i]?=some a/\gK a=some (fv,ft):=by
 have b:tT L fv ft=bj L (wj fv ft)->Ext L (tT L fv ft).2 1/\∃(i:Nat) (a:Nd),(tT L fv ft).1=i/\(tT L fv ft).2[i]?=some a/\gK a=some (fv,ft):=λe=>by
  obtain⟨l,m⟩:=zrR (zwi d) d.2.1;obtain⟨g,i,j,k⟩:=wX h (zEn d o _);rw[e];exact⟨g,i,_,j,k,by rw[gK,if_pos (show(wj fv ft).kind=1 from rfl),l,m]⟩
 match fv,d,b with
 | [],d,b =>
  obtain⟨c,rfl⟩:∃c,ft=[c]:=by match ft,d.2.1 with|[c],_=>exact⟨c,rfl⟩
  obtain⟨g,i,j,k⟩:=wX h (z_ (f:=c::aR 34) ir (Dq (o c ir)) _)
  exact⟨g,i,_,j,k,by simp[gK,fe,sQ,pB]⟩
 | [v],d,b =>
  obtain⟨w,p,q,r,_⟩:=d.2.2 0 ir
  obtain rfl:v=w:=by simpa using p
  obtain⟨n,rfl⟩:=aaF q;obtain⟨s,x⟩:=zGL n an
  by_cases l:ft=[0,ones]
  .have e:tT L [(n:Int)] ft=bj L (fe (cJ n)):=by rw[l];rfl
   obtain⟨g,i,j,k⟩:=wX h (z_ (T4 n) (zsT n) _);rw[e];exact⟨g,i,_,j,k,by rw[s,l]⟩
  .by_cases m:ft=[ones,0]
   .have e:tT L [(n:Int)] ft=bj L (fe (fF (ones::aR 34) (cJ n))):=by rw[m];rfl
    obtain⟨g,i,j,k⟩:=wX h (z_ (zqJ (f:=ones::aR 34) rfl (T4 n)) (zsU _ _) _);rw[e];exact⟨g,i,_,j,k,by rw[x,m]⟩
   .exact b (by simp only[tT,l,m,if_false])
 | u::v::t,d,b=>exact b rfl
def iq.rV{H:ae}(h:iq H){r:ae}(b:∀n,(H++r).length<=n->r.map (aaw (ay.cl n))=r):iq (H++r):=by intro m a;rw[aap,b m a,h m (by rw[aaU] at a;omega)]
def Bk.rV(h:Bk H b z m L){r:ae}(a:∀n,(H++r).length<=n->r.map (aaw (ay.cl n))=r):Bk (H++r) b z m L :=
 ⟨by rw[aah h.lb];exact h.hb,by rw[aah h.lz];exact h.hz,by rw[aah h.lm];exact h.hm,h.shut.rV a,h.ok,h.small⟩
def Bk.to(h:Bk H b z m L){L':List Nd}(hi:Inv L')(a:L'.length<=1000000):Bk (dE H b z m L') b z m L':=h.IF hi.ok a
def zua(h:Bk H b z m L){L':List Nd}{p:Nat}{c:List V}(a:H[p]?=some (some (.cells c)))(d:p≠b):(dE H b z m L')[p]?=some (some (.cells c)):=by
 unfold dE
 have f:m≠p:=λe=>by subst e;rw[h.hm] at a;simp at a
 have g:z≠p:=λe=>by subst e;rw[h.hz] at a;simp at a
 rw[aaA f,aaA g,aaA (Ne.symm d)];exact a
def x8(kind:Int):Bool:=decide (kind≠20/\kind≠52/\kind≠100/\kind≠116)
def AD(kind:Int)(x y:Nat):Nd:={ sQ with kind:=2,op:=kind,x:=x,y:=y }
noncomputable def s9(L:List Nd)(kind:Int)(x y:Nat)(a c:Nd):Int×List Nd :=
 let b:=ko L kind a c
 let d:=ly b.2.2 kind a c
 let e:=kQ kind (qI c) x y
 let f:=kQ kind (qI a) y x
 if b.2.1=true then(b.1,b.2.2) else if d.2.1=true then(d.1,d.2.2) else if e.2=true then(e.1,b.2.2)
 else if x8 kind=true/\f.2=true then(f.1,b.2.2)
 else if x8 kind=true/\y<x then bj b.2.2 (AD kind y x) else bj b.2.2 (AD kind x y)
noncomputable def iH(L:List Nd)(kind x y:Int):Int×List Nd :=
 if(cC kind 0 1).2=true/\cE L x=true/\cE L y=true then(match L[x.toNat]?,L[y.toNat]? with|some a,some c=>s9 L kind x.toNat y.toNat a c|_,_=>(-1,L)) else(-1,L)
def zGM(L:List Nd)(kind:Int)(a c:Nd)(h:(ly L kind a c).2.1=false):(ly L kind a c).2.2=L:=by
 cases b:gK a with
 | none=>simp[ly,b,lu]
 | some p =>
  cases d:gK c with
  | none=>simp[ly,b,d,lu]
  | some q =>
   cases e:z9 kind p q with
   | none=>simp[ly,b,d,e,lu]
   | some r=>simp[ly,b,d,e,mW] at h
section
variable {K:ae} {kind:Int} {x y p0 p1 p2 p3 p4:Nat} {a c:Nd}
def zGN[dT G][au G][aN G](h:Bk K b z m L)(e:L.length<1000000)(f:L[x]?=some a)(g:L[y]?=some c)(i:a.wf)(j:c.wf)
  (k:K[p0]?=some (some (.cells [.ptr b 0]))) (l:K[p1]?=some (some (.cells [.int .i64 kind]))) (n:K[p2]?=some (some (.cells [.int .i64 x]))) (o:K[p3]?=some (some (.cells [.int .i64 y]))) :
  SF G 270 [.ptr p0 0,.ptr p1 0,.ptr p2 0,.ptr p3 0] K (.bc [.int .i64 (ko L kind a c).1,.bool (ko L kind a c).2.1]) (dE K b z m (ko L kind a c).2.2):=by
 refine kr aN.aeQ (aaa rfl) ?_;have d:=h.back (ko L kind a c).2.2 [];simp at d;simp[k,l,n,o];refine cP (zGK kind x y a c h e f g i j) ?_;simp[d]
def zGO[au G][bJ G][aN G](h:Bk K b z m L)(e:L.length<1000000)(f:L[x]?=some a)(g:L[y]?=some c)(i:a.wf)(j:c.wf)
  (k:K[p0]?=some (some (.cells [.ptr b 0]))) (l:K[p1]?=some (some (.cells [.int .i64 kind]))) (n:K[p2]?=some (some (.cells [.int .i64 x]))) (o:K[p3]?=some (some (.cells [.int .i64 y]))) :
  SF G 271 [.ptr p0 0,.ptr p1 0,.ptr p2 0,.ptr p3 0] K (.bc [.int .i64 (ly L kind a c).1,.bool (ly L kind a c).2.1]) (dE K b z m (ly L kind a c).2.2):=by
 refine kr aN.aeR (aaa rfl) ?_;have d:=h.back (ly L kind a c).2.2 [];simp at d;simp[k,l,n,o];refine cP (zEm kind x y a c h e f g i j) ?_;simp[d]
def zGP[au G][aN G](h:Bk K b z m L)
  (a:K[p0]?=some (some (.cells [.ptr b 0]))) (c:K[p1]?=some (some (.cells [.int .i64 kind]))) (d:K[p2]?=some (some (.cells [.int .i64 x]))) (e:K[p3]?=some (some (.cells [.int .i64 y]))) :
  SF G 272 [.ptr p0 0,.ptr p1 0,.ptr p2 0,.ptr p3 0] K (.bc [.int .i64 (kQ kind (dw L y) x y).1,.bool (kQ kind (dw L y) x y).2]) K:=by
 refine kr aN.aeS (aaa rfl) ?_;have f:=h.shut.self;simp[a,c,d,e];refine cP (zt9 kind x y h) ?_;simp[f]
def zGQ[au G][aN G](a:Bool)(h:Bk K b z m L)(c:K[p4]?=some (some (.cells [.bool a])))
  (e:K[p0]?=some (some (.cells [.ptr b 0]))) (f:K[p1]?=some (some (.cells [.int .i64 kind]))) (g:K[p2]?=some (some (.cells [.int .i64 x]))) (i:K[p3]?=some (some (.cells [.int .i64 y]))) :
  SF G 273 [.ptr p4 0,.ptr p0 0,.ptr p1 0,.ptr p3 0,.ptr p2 0] K (.bc [.int .i64 (if a=true then(kQ kind (dw L x) y x).1 else 0),.bool (a&&(kQ kind (dw L x) y x).2)]) K:=by
 refine kr aN.aeT (aaa rfl) ?_;have d:=h.shut.self;cases a
 .simp[c,d]
 .simp[e,f,g,i,c];refine cP (zt9 kind y x h) ?_;simp[d]
end
def zqK{kind:Int}{a c:Nd}(h:Inv L)(d:a.ok)(g:c.ok)(i:a.wf)(j:c.wf):Ext L (ko L kind a c).2.2 1:=by
 have e:Ext L (lu L).2.2 1:=.refl h 1;have b:∀f:List Nat,f.length=35->(∀x∈f,x<4294967296)->Ext L (mW (bj L (fe f))).2.2 1:=λf k l=>(wX h (z_ k l _)).1;rw[ko];split
 .split
  .exact b _ (zwh d.1 g.1) (zys _ _)
  .split
   .exact b _ (zqJ d.1 g.1) (zsU _ _)
   .split
    .rename_i u v m n;split
     .exact b _ (GV _ d.1) (GU _ _)
     .split
      .exact b _ (GV _ d.1) (GU _ _)
      .exact(wX h (z_ ir (Dq (Sx kind (y0 m i.1) (y0 n j.1))) _)).1
    .split
     .exact b _ (GV _ d.1) (GU _ _)
     .split
      .exact b _ (GV _ d.1) (GU _ _)
      .exact e
    .split
     .exact b _ (GV _ g.1) (GU _ _)
     .exact e
    .exact e
 .exact e
def zub{y:Nat}{c:Nd}(a:L[y]?=some c):dw L y=qI c:=by
 have b:=(aaf.1 a).1
 have d:cE L y=true:=by simp[cE];exact b
 simp[dw,d,a]
def T5{f:Nat}{cap args:List V}{r:V}{H':ae}{base:Nat}{d:Option Nat}{os:List aF}{K:List Kt}{e:Env}{Q:Ex->Env->ae->Prop}(h:SF G f (args++cap) H r H')
  (a:WO G base os K (e.put d r) H' Q):KU G false (.fn f cap) args base d os K e H Q:=by
 obtain⟨i,H1,b,c,g⟩:=h;refine kW b ir ?_;rw[c,g];exact a
def T6[dT G][au G][bJ G][aN G](kind x y:Int)(h:Bk H b z m L)(hi:Inv L)(hs:L.length<999990):BF G 274 [.int .i64 kind,.int .i64 x,.int .i64 y] H b z m (iH L kind x y):=by
 refine kr aN.aeU (aaa rfl) ?_;obtain⟨B0,Gw⟩:∃B0:ae,B0=[some (.cells [.ptr b 0]),some (.cells [.int .i64 kind]),some (.cells [.int .i64 x]),some (.cells [.int .i64 y])]:=⟨_,rfl⟩
 have Y:∀n,H.length<=n->b<n:=λn D=>by have:=h.lb;omega
 have h1:Bk (H++[some (.cells [.ptr b 0]),some (.cells [.int .i64 kind]),some (.cells [.int .i64 x]),some (.cells [.int .i64 y])]) b z m L:=h.rV λn D=>by simp[ay.cl,aZ,V.cl];exact Y n (by simp at D;omega)
 have pj:=h1.shut.self;have fM:=h.shut.back;have U:=h.gA;simp at pj;have xY:=K_ (G:=G) (by infer_instance) kind 0 1 ah9 ah9;simp at xY
 have iJ:∀p:Prop,iH L kind x y=(-1,L)->p->(iH L kind x y).1=-1/\dE H b z m (iH L kind x y).2=H:=λp e _=>by rw[e];exact⟨rfl,U⟩
 simp;refine aw xY ?_;simp
 cases ja:(cC kind 0 1).2 with
 | false =>
  have J:iH L kind x y=(-1,L):=by rw[iH,if_neg (by simp[ja])]
  simp[J,U,fM]
 | true =>
  simp;refine cP (Jq x h1) ?_
  cases hx:cE L x with
  | false =>
   have J:iH L kind x y=(-1,L):=by rw[iH,if_neg (by simp[hx])]
   simp[J,U,fM]
  | true =>
   simp;refine cP (Jq y h1) ?_
   cases hy:cE L y with
   | false =>
    have J:iH L kind x y=(-1,L):=by rw[iH,if_neg (by simp[hy])]
    simp[J,U,fM]
   | true =>
    obtain⟨sD,ym⟩:0<=x/\x<L.length:=by simpa[cE] using hx
    obtain⟨DP,A5⟩:0<=y/\y<L.length:=by simpa[cE] using hy
    obtain⟨f,rfl⟩:=aaF sD;obtain⟨g,rfl⟩:=aaF DP;obtain⟨a,Z⟩:∃a,L[f]?=some a:=⟨_,lf an⟩;obtain⟨c,hc⟩:∃c,L[g]?=some c:=⟨_,lf an⟩
    have J:iH L kind f g=s9 L kind f g a c:=by rw[iH,if_pos ⟨ja,hx,hy⟩];simp[Z,hc]
    rw[J];obtain⟨l,v⟩:=bb (x8 kind)
    have h2:Bk (H++[some (.cells [.ptr b 0]),some (.cells [.int .i64 kind]),some (.cells [.int .i64 f]),some (.cells [.int .i64 g]),some (.cells [.bool l])]) b z m L:=h.rV λn D=>by simp[ay.cl,aZ,V.cl];exact Y n (by simp at D;omega)
    obtain⟨C,K⟩:∃C:List V,C=[.fn 270 [.ptr H.length 0,.ptr (H.length+1) 0,.ptr (H.length+2) 0,.ptr (H.length+3) 0],.fn 271 [.ptr H.length 0,.ptr (H.length+1) 0,.ptr (H.length+2) 0,.ptr (H.length+3) 0],
     .fn 272 [.ptr H.length 0,.ptr (H.length+1) 0,.ptr (H.length+2) 0,.ptr (H.length+3) 0],.fn 273 [.ptr (H.length+4) 0,.ptr H.length 0,.ptr (H.length+1) 0,.ptr (H.length+3) 0,.ptr (H.length+2) 0]]:=⟨_,rfl⟩
    have tN:=h2.shut.self;simp at tN
    have c5:kind=20/\l=false\/kind=52/\l=false\/kind=100/\l=false\/kind=116/\l=false\/(kind≠20/\kind≠52/\kind≠100/\kind≠116)/\l=true:=by
     by_cases a1:kind=20
     .simp[a1,v,x8]
     by_cases a2:kind=52
     .simp[a2,v,x8]
     by_cases a3:kind=100
     .simp[a3,v,x8]
     by_cases a4:kind=116
     .simp[a4,v,x8]
     simp[a1,a2,a3,a4,v,x8]
    have T7:kind≠20->(kind !=20)=true:=λh=>ki h;have M:kind≠52->(kind !=52)=true:=λh=>ki h;have Ef:kind≠100->(kind !=100)=true:=λh=>ki h;have IA:kind≠116->(kind !=116)=true:=λh=>ki h
    have W:∀n,H.length+6<=n->aZ n C=C:=λn D=>by
     rw[K];simp[aZ,V.cl,show H.length<n by omega,show H.length+1<n by omega,show H.length+2<n by omega,show H.length+3<n by omega,show H.length+4<n by omega]
    have h3:Bk (H++[some (.cells [.ptr b 0]),some (.cells [.int .i64 kind]),some (.cells [.int .i64 f]),some (.cells [.int .i64 g]),some (.cells [.bool l]),some (.cells C)]) b z m L:=h.rV λn D=>by simp at D;simp[ay.cl,aZ,V.cl,W n an];exact Y n an
    obtain⟨j,q⟩:∃j:List Nd->ae,∀L',j L'=dE H b z m L'++[some (.cells [.ptr b 0]),some (.cells [.int .i64 kind]),some (.cells [.int .i64 f]),some (.cells [.int .i64 g]),some (.cells [.bool l]),some (.cells C)]:=⟨_,λ_=>rfl⟩
    have bL:j L=H++[some (.cells [.ptr b 0]),some (.cells [.int .i64 kind]),some (.cells [.int .i64 f]),some (.cells [.int .i64 g]),some (.cells [.bool l]),some (.cells C)]:=by rw[q,U]
    have bU:∀L':List Nd,j L'=dE (H++[some (.cells [.ptr b 0]),some (.cells [.int .i64 kind]),some (.cells [.int .i64 f]),some (.cells [.int .i64 g]),some (.cells [.bool l]),some (.cells C)]) b z m L':=λL'=>by rw[h.cA,q]
    have bB:∀L':List Nd,Inv L'->L'.length<=1000000->Bk (j L') b z m L':=λL' qS nS=>by rw[bU];exact h3.to qS nS
    have X:∀d L2:List Nd,dE (j d) b z m L2=j L2:=λd L2=>by rw[bU,bU,h3.mh]
    have S:∀L':List Nd,(j L').length=H.length+6:=λL'=>by rw[q];simp[sS]
    have g0:∀(L':List Nd) (r:ae),(dE H b z m L'++r)[H.length]?=r[0]?:=λL' r=>by rw[<-sS H b z m L',ll]
    have T:∀(L':List Nd) (r:ae) (k:Nat),(dE H b z m L'++r)[H.length+k]?=r[k]?:=λL' r k=>by
     have:=iG (dE H b z m L') r k;rwa[sS] at this
    have sk:∀(L':List Nd) (r:ae) (k:Nat) (x:Option ay),(dE H b z m L'++r).set (H.length+k) x=dE H b z m L'++r.set k x:=λL' r k x=>by
     have:=xT (dE H b z m L') r k x;rwa[sS] at this
    have N:∀L',(j L')[H.length]?=some (some (.cells [.ptr b 0])):=λL'=>by rw[q,g0];rfl
    have q1:∀L',(j L')[H.length+1]?=some (some (.cells [.int .i64 kind])):=λL'=>by rw[q,T];rfl
    have O:∀L',(j L')[H.length+2]?=some (some (.cells [.int .i64 f])):=λL'=>by rw[q,T];rfl
    have P:∀L',(j L')[H.length+3]?=some (some (.cells [.int .i64 g])):=λL'=>by rw[q,T];rfl
    have q4:∀L',(j L')[H.length+4]?=some (some (.cells [.bool l])):=λL'=>by rw[q,T];rfl
    have q5:∀L',(j L')[H.length+5]?=some (some (.cells C)):=λL'=>by rw[q,T];rfl
    have iC:=hi.cO f a Z;have vn:=hi.cO g c hc;have Q:=zqK (kind:=kind) hi iC.1 vn.1 iC.2.1 vn.2.1;obtain⟨d,E⟩:=bb ((ko L kind a c).2.2);rw[<-E] at Q;have l1:=Q.len;have k0:=bB L hi an;have k1:=bB d Q.inv an;have qT:=Q.get Z;have zA:=Q.get hc;have cx:=zub qT;have cy:=zub zA
    have tr:∀(L':List Nd),Inv L'->L'.length<=1000000->∀r,ak (H.length+6) (j L'++r)=j L':=λL' qS nS r=>by
     have:=(bB L' qS nS).shut.back r;rwa[S] at this
    have hb:=tr L hi an;have he:=tr d Q.inv an
    have hf:ak (H.length+6) (j L)=j L:=by simpa using hb []
    have T8:ak (H.length+6) (j d)=j d:=by simpa using he []
    have hg:∀L' r,ak H.length (j L'++r)=dE H b z m L':=λL' r=>by rw[q,abm];exact h.back L' _
    have iT:∀L',ak H.length (j L')=dE H b z m L':=λL'=>by simpa using hg L' []
    obtain⟨I,Py,T9⟩:∃I:Nat->List Nd,I 0=L/\∀i,I (i+1)=d:=⟨λi=>match i with|0=>L|_+1=>d,rfl,λ_=>rfl⟩
    have C0:C.take 1=[.fn 270 [.ptr H.length 0,.ptr (H.length+1) 0,.ptr (H.length+2) 0,.ptr (H.length+3) 0]]:=by rw[K];rfl
    have C1:C.tail.take 1=[.fn 271 [.ptr H.length 0,.ptr (H.length+1) 0,.ptr (H.length+2) 0,.ptr (H.length+3) 0]]:=by rw[K];rfl
    have C2:(C.drop 2).take 1=[.fn 272 [.ptr H.length 0,.ptr (H.length+1) 0,.ptr (H.length+2) 0,.ptr (H.length+3) 0]]:=by rw[K];rfl
    have C3:(C.drop 3).take 1=[.fn 273 [.ptr (H.length+4) 0,.ptr H.length 0,.ptr (H.length+1) 0,.ptr (H.length+3) 0,.ptr (H.length+2) 0]]:=by rw[K];rfl
    have lC:C.length=4:=by rw[K];rfl
    have A1:=zGN (G:=G) (kind:=kind) k0 an Z hc iC.2.1 vn.2.1 (N L) (q1 L) (O L) (P L);have A2:=zGO (G:=G) (kind:=kind) k1 an qT zA iC.2.1 vn.2.1 (N d) (q1 d) (O d) (P d);have A3:=zGP (G:=G) (kind:=kind) k1 (N d) (q1 d) (O d) (P d);have A4:=zGQ (G:=G) (kind:=kind) l k1 (q4 d) (N d) (q1 d) (O d) (P d);rw[<-E,X] at A1;rw[X] at A2;rw[cy] at A3;rw[cx] at A4
    have Pz:I 1=d:=T9 0;have PA:I 2=d:=T9 1;have PB:I 3=d:=T9 2;have E6:I 4=d:=T9 3;have Jy:aC .i64 0 1=1:=rfl;have GX:aC .i64 1 1=2:=rfl;have hj:aC .i64 2 1=3:=rfl;have hl:aC .i64 3 1=4:=rfl;have tU:∀(u w:Nat) (r:List (Nat×V)),ow (il ((80,.int .i64 w)::(79,.int .i64 u)::(78,.int .i64 kind)::r)) sQ.cs [(0,1,.c (.int .i64 2)),(57,1,.t 78),(58,1,.t 79),(59,1,.t 80)]=some (AD kind u w).cs:=λ_ _ _=>rfl
    have hd:=h.to Q.inv an
    have s:∀u w:Nat,s9 L kind f g a c=bj d (AD kind u w) ->
      SF G 259 [.ptr b 0,.agg (AD kind u w).cs] (dE H b z m d++[some (.cells [.ptr b 0]),some (.cells [.int .i64 kind]),some (.cells [.int .i64 u]),some (.cells [.int .i64 w]),some (.cells [.bool l]),some (.cells C)]) (.int .i64 (s9 L kind f g a c).1)
       (dE H b z m (s9 L kind f g a c).2++[some (.cells [.ptr b 0]),some (.cells [.int .i64 kind]),some (.cells [.int .i64 u]),some (.cells [.int .i64 w]),some (.cells [.bool l]),some (.cells C)]):=λu w o=>by
     have hm:Bk (dE H b z m d++[some (.cells [.ptr b 0]),some (.cells [.int .i64 kind]),some (.cells [.int .i64 u]),some (.cells [.int .i64 w]),some (.cells [.bool l]),some (.cells C)]) b z m d :=
      hd.rV λn D=>by simp[sS] at D;simp[ay.cl,aZ,V.cl,W n an];exact Y n an
     have:=Lg (G:=G) (AD kind u w) ⟨rfl,rfl,rfl⟩ hm an;rw[hd.cA,h.mh] at this;rw[o];exact this
    have xq:∀(L':List Nd) (r:ae),ak H.length (dE H b z m L'++r)=dE H b z m L':=λL' r=>h.back L' r
    rcases c5 with⟨hk,A⟩|⟨hk,A⟩|⟨hk,A⟩|⟨hk,A⟩|⟨⟨z1,z2,z3,z4⟩,A⟩
    all_goals
     first
      | simp[T7 z1,M z2,Ef z3,IA z4]
      | simp[Bv (show kind=20 by omega)]
      | simp[T7 an,Bv (show kind=52 by omega)]
      | simp[T7 an,M an,Bv (show kind=100 by omega)]
      | simp[T7 an,M an,Ef an,Bv (show kind=116 by omega)]
     rw[A] at bL;rw[<-K,<-bL]
     refine aO 4 (λi=>[(4,.ptr H.length 0),(5,.ptr (H.length+1) 0),(6,.ptr (H.length+2) 0),(7,.ptr (H.length+3) 0),(11,.ptr (H.length+4) 0),(55,.rs (H.length+5) 0 4 1),(56,.int .i64 4),(57,.int .i64 i)])
      (λi=>j (I i)) (λi=>(0<i->(ko L kind a c).2.1=false)/\(1<i->(ly d kind a c).2.1=false)/\(2<i->(kQ kind (qI c) f g).2=false)/\(3<i->(l&&(kQ kind (qI a) g f).2)=false)) ?_ ?_
     .simp[av,S,hf,Py]
     intro i xV B
     by_cases ah:i<4
     .rcases(show i=0\/i=1\/i=2\/i=3 by omega) with rfl|rfl|rfl|rfl
      .simp[Py,q5,C0,lC];refine T5 A1 ?_
       cases F:(ko L kind a c).2.1 with
       | true =>
        have o:s9 L kind f g a c=((ko L kind a c).1,d):=by rw[E,s9];simp only[F,if_true]
        simp[o,iT]
       | false =>
        simp[S,av,T8,Pz,Jy]
      .have p1:=B.1 an;simp[Pz,q5,C1,lC];refine T5 A2 ?_
       cases F:(ly d kind a c).2.1 with
       | true =>
        have o:s9 L kind f g a c=((ly d kind a c).1,(ly d kind a c).2.2):=by rw[s9];simp only[p1,<-E,F,if_true,aaE,if_false]
        simp[o,iT]
       | false =>
        have eL:=zGM d kind a c F;simp[p1,S,av,T8,PA,eL,GX]
      .have p1:=B.1 an;have p2:=B.2.1 an;simp[PA,q5,C2,lC];refine T5 A3 ?_
       cases F:(kQ kind (qI c) f g).2 with
       | true =>
        have o:s9 L kind f g a c=((kQ kind (qI c) f g).1,d):=by rw[s9];simp only[p1,p2,<-E,F,if_true,aaE,if_false]
        simp[o,iT]
       | false =>
        simp[p1,p2,S,av,T8,PB,hj]
      .have p1:=B.1 an;have p2:=B.2.1 an;have p3:=B.2.2.1 an;simp[PB,q5,C3,lC];refine T5 A4 ?_
       cases F:(l&&(kQ kind (qI a) g f).2) with
       | true =>
        have HX:x8 kind=true/\(kQ kind (qI a) g f).2=true:=by rw[<-v];simpa using F
        have o:s9 L kind f g a c=((kQ kind (qI a) g f).1,d):=by rw[s9];simp only[p1,p2,p3,<-E,HX,if_true,aaE,if_false,and_self]
        have R:l=true:=by rw[v];exact HX.1
        simp[o,iT,R]
       | false =>
        simp[p1,p2,p3,S,av,T8,E6,hl]
        exact λhh=>by simpa[hh] using F
     .obtain rfl:i=4:=by omega
      have p1:=B.1 an;have p2:=B.2.1 an;have p3:=B.2.2.1 an;have p4:=B.2.2.2 an
      first
       | (
         have R:x8 kind=false:=by rw[<-v];exact A
         have o:s9 L kind f g a c=bj d (AD kind f g):=by rw[s9];simp only[p1,p2,p3,<-E,R,aaE,if_false,false_and]
         simp[E6,q4,O,P,q1,N,A];rw[q];simp[-ow];refine cP (s f g o) ?_
         simp[xq])
       | (
         have ho:¬(x8 kind=true/\(kQ kind (qI a) g f).2=true):=λhh=>by rw[v,hh.1,hh.2] at p4;cases p4
         have R:x8 kind=true:=by rw[<-v];exact A
         have p5:(kQ kind (qI a) g f).2=false:=by cases e:(kQ kind (qI a) g f).2 with|false=>rfl|true=>exact absurd ⟨R,e⟩ ho
         by_cases Jd:g<f
         .have o:s9 L kind f g a c=bj d (AD kind g f):=by rw[s9];simp only[p1,p2,p3,<-E,p5,R,Jd,if_true,aaE,if_false,and_false,and_self]
          simp[E6,q4,O,P,q1,N,A,Jd];rw[q];simp[-ow,nz,T,sk,tU];refine cP (s g f o) ?_;simp[xq]
         .have o:s9 L kind f g a c=bj d (AD kind f g):=by rw[s9];simp only[p1,p2,p3,<-E,p5,R,Jd,aaE,if_false,and_false]
          simp[E6,q4,O,P,q1,N,A,Jd];rw[q];simp[-ow];refine cP (s f g o) ?_
          simp[xq])
open Go Go.RowKit
variable {G:aL}
variable {H:ae} {b z m:Nat} {L:List Nd}
def Aa(L:List Nd):Int×List Nd:=bj L (fe (0::aR 34))
noncomputable def oV(L:List Nd)(x:Int):Int×List Nd:=if cE L x=true then iH (Aa L).2 20 (Aa L).1 x else(-1,L)
def T_(h:Inv L):Ext L (Aa L).2 1:=(wX h (z_ ir (Dq ah9) _)).1
def zGR[dT G][au G][bJ G][aN G](x:Int)(h:Bk H b z m L)(hi:Inv L)(l:L.length<999980):BF G 275 [.int .i64 x] H b z m (oV L x):=by
 refine kr aN.aeV (aaa rfl) ?_;have g:=h.shut.self;have i:=h.gA;simp;refine cP (Jq x h) ?_
 cases e:cE L x with
 | false =>
  have c:oV L x=(-1,L):=by rw[oV,if_neg (by simp[e])]
  simp[c,g,i]
 | true =>
  have c:oV L x=iH (Aa L).2 20 (Aa L).1 x:=by rw[oV,if_pos e]
  have d:=T_ hi;have n:=d.len;have j:=h.to d.inv an;simp;have k:=LL (G:=G) 0 h an;refine cP k ?_;have f:=T6 (G:=G) 20 (Aa L).1 x j d.inv an;rw[BF,h.mh] at f;have a:=h.back (iH (Aa L).2 20 (Aa L).1 x).2 [];simp at a;simp;refine cP f ?_;simp[c,a]
def gL(kind:Int)(o o':Option Nat):Option Nat:=match o,o' with
 | some l,some r=>if(cC kind l r).2=true then some (cC kind l r).1 else none
 | _,_=>none
noncomputable def gC(v:List Nat)(b:List (Option Nat))(a:Nd):Option Nat :=
 if a.kind=0 then some (j_ a.f v) else if a.kind=1 then(gK a).map λp=>val p.1 p.2 (qg v)
 else gL a.op b[a.x]?.join b[a.y]?.join
noncomputable def dk(v:List Nat)(L:List Nd):List (Option Nat):=L.foldl (λb a=>b++[gC v b a]) []
section
variable {v:List Nat}
def zuc(L:List Nd)(a:Nd):dk v (L++[a])=dk v L++[gC v (dk v L) a]:=by simp[dk]
def wY:∀L:List Nd,(dk v L).length=L.length:=by
 intro L
 have:∀(L:List Nd) (b:List (Option Nat)),(L.foldl (λb a=>b++[gC v b a]) b).length=b.length+L.length:=λL=>by
  induction L with
  | nil=>intro b;rfl
  | cons a L c=>intro b;simp only[List.foldl_cons,c];simp;omega
 simpa[dk] using this L []
def zEo:∀(L M:List Nd),dk v L <+: dk v (L++M):=by
 intro L M
 have:∀(M:List Nd) (b:List (Option Nat)),b <+: M.foldl (λb a=>b++[gC v b a]) b:=λM=>by
  induction M with
  | nil=>intro b;exact adt _
  | cons a M c=>intro b;exact(ade _ _).trans (c _)
 rw[dk,dk,adh];exact this M _
def zwk{L L':List Nd}(h:L <+: L'):dk v L <+: dk v L':=by obtain⟨M,rfl⟩:=h;exact zEo L M
def LP(L:List Nd)(i:Nat):(dk v L).take i=dk v (L.take i):=by
 have h:=zwk (v:=v) (List.take_prefix i L);obtain⟨t,a⟩:=h
 by_cases hi:i<=L.length
 .rw[<-a,abk (by rw[wY,aas];omega)]
 .rw[aai (by rw[wY];omega),aai an]
def zyt{i:Nat}{a:Nd}(h:L[i]?=some a):(dk v L)[i]?=some (gC v (dk v (L.take i)) a):=by
 have d:=(aaf.1 h).1
 have e:L.take (i+1)=L.take i++[a]:=by rw[aaK,h];rfl
 have b:=LP (v:=v) L (i+1);rw[e,zuc] at b
 have c:((dk v L).take (i+1))[i]?=(dk v L)[i]?:=by rw[abg];simp
 rw[<-c,b,aaj (by rw[wY,aas];omega),wY,aas];rw[show i-min i L.length=0 by omega];rfl
end
def zwl(f v:List Nat):j_ f v<4294967296:=acX _ ah9
def zsV{v:List Nat}{k i:Nat}{o:Option Nat}(hi:Inv L)(h:(dk v (L.take k))[i]?=some o):o.getD 0<4294967296:=by
 have a:∀(i:Nat) (o:Option Nat),(dk v L)[i]?=some o->o.getD 0<4294967296:=λi=>by
  induction i using Nat.strongRecOn with
  | _ i n =>
   intro o m;have q:=(aaf.1 m).1;rw[wY] at q;have s:=lf q;rw[zyt s] at m;cases m;have B:=hi.cO i _ s
   have b:∀j,j<i->(dk v (L.take i))[j]?=(dk v L)[j]?:=λj C=>by rw[<-LP,abg,if_pos C]
   rw[gC];split
   .exact zwl _ _
   .split
    .cases e:gK L[i] with
     | none=>simp
     | some p=>simp only[acR,abp];exact zIo _ _ _
    .rcases B.2.2 with h|h|⟨_,t,u,_⟩
     .contradiction
     .contradiction
     .unfold gL;split
      .rename_i l r c d;split
       .rw[b _ t] at c;rw[b _ u] at d
        obtain⟨f,D,E⟩:∃f,(dk v L)[L[i].x]?=some f/\f=some l:=by
         cases e:(dk v L)[L[i].x]? with
         | none=>rw[e] at c;cases c
         | some f=>rw[e] at c;exact⟨f,rfl,c⟩
        obtain⟨g,F,G⟩:∃g,(dk v L)[L[i].y]?=some g/\g=some r:=by
         cases e:(dk v L)[L[i].y]? with
         | none=>rw[e] at d;cases d
         | some g=>rw[e] at d;exact⟨g,rfl,d⟩
        have w:=n _ t _ D;have z:=n _ u _ F;rw[E] at w;rw[G] at z;exact Sx _ w z
       .simp
      .simp
 by_cases A:i<k
 .rw[<-LP,abg,if_pos A] at h;exact a i o h
 .rw[<-LP,abg,if_neg A] at h;cases h
noncomputable def dq(v:List Nat)(L:List Nd)(x:Int):Option Nat:=if cE L x=true then(dk v L)[x.toNat]?.join else none
def kn(l:List (Option Nat)):List V:=(l.map λo=>[V.int .u32 (o.getD 0:Nat),.bool o.isSome]).flatten
def PC(l:List (Option Nat)):(kn l).length=2*l.length:=by
 induction l with
 | nil=>rfl
 | cons o l a=>simp[kn] at a |-;omega
def zsW:∀(l:List (Option Nat)) (i:Nat),(kn l).drop (2*i)=kn (l.drop i)
 | [],i=>by simp[kn]
 | o::l,0=>rfl
 | o::l,i+1=>by
  have e:kn (o::l)=[V.int .u32 (o.getD 0:Nat),.bool o.isSome]++kn l:=rfl;have a:([V.int .u32 (o.getD 0:Nat),.bool o.isSome]++kn l).drop 2=kn l:=rfl;rw[e,show 2*(i+1)=2+2*i by omega,<-abc,a,zsW l i];rfl
def zyu:∀(l:List (Option Nat)) (i:Nat),(kn l).take (2*i)=kn (l.take i)
 | [],i=>by simp[kn]
 | o::l,0=>rfl
 | o::l,i+1=>by
  have e:kn (o::l)=[V.int .u32 (o.getD 0:Nat),.bool o.isSome]++kn l:=rfl;rw[e,show 2*(i+1)=2*i+1+1 by omega];show V.int .u32 (o.getD 0:Nat)::.bool o.isSome::(kn l).take (2*i)=_;rw[zyu l i];rfl
def zwm{l:List (Option Nat)}{i:Nat}{o:Option Nat}(h:l[i]?=some o):((kn l).drop (2*i)).take 2=[V.int .u32 (o.getD 0:Nat),.bool o.isSome]:=by rw[zsW];obtain⟨a,rfl⟩:=aaf.1 h;rw[abA a];rfl
def zIq{l:List (Option Nat)}{i:Nat}(h:i<l.length)(o:Option Nat):(kn l).take (2*i)++([V.int .u32 (o.getD 0:Nat),.bool o.isSome]++(kn l).drop (2*i+2))=kn (l.set i o):=by rw[zyu,show 2*i+2=2*(i+1) by omega,zsW,List.set_eq_take_append_cons_drop,if_pos h];simp[kn]
def zFD(l:List (Option Nat))(n:Nat):aZ n (kn l)=kn l:=by
 induction l with
 | nil=>rfl
 | cons o l a =>
  have e:kn (o::l)=.int .u32 (o.getD 0:Nat)::.bool o.isSome::kn l:=rfl;rw[e];simp[aZ,V.cl,a]
def zBS[dT G][au G][hB:je G][aN G][de G](x:Int)(v:List Nat)(h:Bk H b z m L)(hi:Inv L)(E:v.length=34)(sF:∀c∈v,c<4294967296) :
  SF G 276 [.ptr b 0,.int .i64 x,.agg (ax .u32 v)] H (.bc [.int .u32 ((dq v L x).getD 0:Nat),.bool (dq v L x).isSome]) H:=by
 refine kr de.aeW (aaa rfl) ?_;have Gt:=eA (k:=.u32) E
 have h1:Bk (H++[some (.cells (ax .u32 v))]) b z m L:=h.app λn=>by simp[ay.cl]
 have pj:=h1.shut.self;have fM:=h.shut.back;have ah:=h.lb;have hb:=h.cU
 have iS:∀r:ae,(H++r)[b]?=some (some (.cells [.vs (sR L) (.own z),.mp m])):=λr=>by rw[aah ah];exact hb
 have AZ:=h.small;simp at pj;simp;refine cP (Jq x h1) ?_
 cases W:cE L x with
 | false=>simp[dq,W,fM]
 | true =>
  obtain⟨sD,ym⟩:0<=x/\x<L.length:=by simpa[cE] using W
  obtain⟨n,rfl⟩:=aaF sD
  have hn:n<L.length:=an
  have X:(∀f∈sR L,f.length=60)=True:=eq_true (zBi h.ok);obtain⟨S,Y⟩:=bb ((sR L).take (n+1))
  have yS:S.length=n+1:=by rw[Y];simp;omega
  have Z:∀(i:Nat) (a:Nd),i<n+1->L[i]?=some a->S[i]?=some a.cs:=λi a hi u=>by rw[Y,abg,if_pos hi,Ze u]
  have zD:(abC (n+1) [V.int .u32 0,V.bool false]).flatten=kn (abC (n+1) none):=by simp[kn]
  simp(disch:=omega)[iS,iG,bA,-aab,nY,aB,X,<-Y,yS,zD];obtain⟨T,C⟩:∃T:Nat->List (Option Nat),∀i,T i=dk v (L.take i)++abC (n+1-i) none:=⟨_,λ_=>rfl⟩
  have T0:T 0=abC (n+1) none:=by rw[C];simp[dk]
  have Tl:∀i,i<=n+1->(T i).length=n+1:=λi hi=>by rw[C];simp[wY];omega
  have Tg:∀i j,i<=n+1->j<i->(T i)[j]?=(dk v (L.take i))[j]?:=λi j hi hj=>by rw[C,aah (by simp[wY];omega)]
  have Ts:∀(i:Nat) (a:Nd),i<n+1->L[i]?=some a->(T i).set i (gC v (dk v (L.take i)) a)=T (i+1):=λi a hi u=>by
   have e:L.take (i+1)=L.take i++[a]:=by rw[aaK,u];rfl
   have F:(dk v (L.take i)).length=i:=by rw[wY];simp;omega
   rw[C,C,e,zuc,aau _ _ an,F,abD,show n+1-i=(n+1-(i+1))+1 by omega,abF,adf,abm];rfl
  obtain⟨g,I⟩:∃g:Nat->ae,∀i,g i=H++[some (.cells (ax .u32 v)),some (.cells (kn (T i)))]:=⟨_,λ_=>rfl⟩
  have E7:∀i,Bk (g i) b z m L:=λi=>by rw[I];exact h.app λn=>by simp[ay.cl,zFD]
  have bl:∀i,(g i).length=H.length+2:=λi=>by rw[I];simp
  have tr:∀i r,ak (H.length+2) (g i++r)=g i:=λi r=>by have:=(E7 i).shut.back r;rwa[bl] at this
  have J:∀i r,ak (H.length+2) (H++some (.cells (ax .u32 v))::some (.cells (kn (T i)))::r)=g i:=λi r=>by have:=tr i r;rw[I] at this |-;simpa using this
  refine aO (n+1) (λi=>[(0,.ptr b 0),(1,.int .i64 n),(5,.ptr H.length 0),(8,.rs (H.length+1) 0 (n+1) 2),(32,.vs S .no),(33,.int .i64 (n+1:Nat)),(34,.int .i64 i)]) g (λ_=>True) ?_ ?_
  .have:=J 0 [];have w:(b<H.length+2)=True:=ah7;simp[av,<-T0,this,w]
  intro i hw _
  by_cases PD:i<n+1
  .obtain⟨a,u⟩:∃a,L[i]?=some a:=⟨_,lf an⟩;have hg:=Z i a PD u;have q:=hi.cO i a u;have F:=Nd.len q.1;have eI:a.cs.take 60=a.cs:=aai an;have vj:sQ.cs.drop 60=[]:=rfl;have rR:sQ.cs.length=60:=rfl;have yr:S[i]' an=a.cs:=(aaf.1 hg).2;have t1:a.cs.take 1=[.int .i64 a.kind]:=rfl
   have hc:a.cs.tail.take 35=ax .u32 a.f:=by show(ax .u32 a.f++_).take 35=_;rw[abk (by simp[q.1.1])]
   have eK:=Ts i a PD u;have D:=Tl i an;have s:=zIq (l:=T i) (i:=i) an (gC v (dk v (L.take i)) a);rw[eK,adg 2 i] at s;have jl:((i:Int)<(n:Int)+1)=True:=ah7;have w:(b<H.length+2)=True:=ah7
   have hy:i*2+2<=2*(n+1):=an
   rw[I];simp(disch:=omega)[bC,yr,F,eI,vj,rR,nz,iG,aB,leFn,t1];have M:∀r,ak (H.length+2) (H++some (.cells (ax .u32 v))::some (.cells (kn (T (i+1))))::r)=g (i+1):=λr=>J (i+1) r
   by_cases N:a.kind=0
   .have O:((a.kind:Int)==0)=true:=D7 an
    have t:gC v (dk v (L.take i)) a=some (j_ a.f v):=by rw[gC,if_pos N]
    rw[t] at s;simp only[abp,acr,aav,abf] at s;simp(disch:=omega)[O,hc,ll,iG,aB,leFn,F,E,Gt];refine aw (zEi a.f v q.1.1 E q.2.1.1) ?_;simp(disch:=omega)[iG,aB,D,PC,gV,s,M,av,w,bA,-aab]
   .have O:((a.kind:Int)==0)=false:=aG an
    by_cases P:a.kind=1
    .have lQ:((a.kind:Int)==1)=true:=D7 an
     obtain⟨p,hp⟩:∃p,gK a=some p:=by rw[gK,if_pos P];exact⟨_,rfl⟩
     obtain⟨Q,yX⟩:=Js q.2.1 hp
     have t:gC v (dk v (L.take i)) a=some (val p.1 p.2 (qg v)):=by rw[gC,if_neg N,if_pos P,hp];rfl
     rw[t] at s;simp only[abp,acr,aav,abf] at s;have DD:=Q.1;have hz:=CV Q.1 Q.2.1;have A:=zGg hB p.1 p.2 v an an yX E sF;rw[Gd.2 Q,if_pos rfl] at A;simp only[FV] at A;simp(disch:=omega)[O,lQ];refine cP (Ju i a (h.app (r:=[some (.cells (ax .u32 v)),some (.cells (kn (T i))),some (.cells a.cs),none]) λn=>by simp[ay.cl,zFD,Nd.mb]) u q.2.1) ?_;simp(disch:=omega)[hp,sZ,FV,ll,iG,leFn,E,Gt]
     refine aw A ?_;simp(disch:=omega)[iG,aB,D,PC,gV,s,M,av,w,bA,-aab]
    .have lQ:((a.kind:Int)==1)=false:=aG an
     obtain⟨DR,he,hf,bt⟩:a.kind=2/\a.x<i/\a.y<i/\(cC a.op 0 1).2=true:=by rcases q.2.2 with h|h|h;exact absurd h N;exact absurd h P;exact h
     have hh:a.cs=(.int .i64 (a.kind:Int)::(ax .u32 a.f++.int .i64 (a.n:Int)::(ax .i64 a.vars++ax .u32 a.tab)))++[.int .i64 a.op,.int .i64 a.x,.int .i64 a.y]:=by simp[Nd.cs]
     have hm:(V.int .i64 (a.kind:Int)::(ax .u32 a.f++.int .i64 (a.n:Int)::(ax .i64 a.vars++ax .u32 a.tab))).length=57:=by simp[q.1.1,q.1.2.1,q.1.2.2]
     have B:a.cs.drop 57=[.int .i64 a.op,.int .i64 a.x,.int .i64 a.y]:=by rw[hh];exact abI hm
     have hq:(a.cs.drop 58).take 1=[.int .i64 a.x]:=by rw[show 58=57+1 from rfl,<-abc,B];rfl
     have hr:(a.cs.drop 59).take 1=[.int .i64 a.y]:=by rw[show 59=57+2 from rfl,<-abc,B];rfl
     have hs:(a.cs.drop 57).take 1=[.int .i64 a.op]:=by rw[B];rfl
     obtain⟨R,PE⟩:∃o,(dk v (L.take i))[a.x]?=some o:=⟨_,lf (by rw[wY,aas];omega)⟩;obtain⟨U,E8⟩:∃o,(dk v (L.take i))[a.y]?=some o:=⟨_,lf (by rw[wY,aas];omega)⟩;have gx:=zwm (l:=T i) (i:=a.x) (o:=R) (by rw[Tg i a.x an he,PE]);have gy:=zwm (l:=T i) (i:=a.y) (o:=U) (by rw[Tg i a.y an hf,E8]);rw[adg] at gx gy;have ht:((a.x:Int)<(n:Int)+1)=True:=ah7;have Ua:((a.y:Int)<(n:Int)+1)=True:=ah7
     have SM:H.length+3+1=H.length+4:=rfl;simp(disch:=omega)[O,lQ,iG,aB,leFn,F,hs,hq,hr,ht,Ua,PC,D,gx,gy,SM];have xY:=K_ (G:=G) (by infer_instance) a.op (R.getD 0) (U.getD 0) (zsV hi PE) (zsV hi E8);refine aw xY ?_;simp(disch:=omega)[iG,leFn]
     have t:gC v (dk v (L.take i)) a=gL a.op R U:=by rw[gC,if_neg N,if_neg P,PE,E8];rfl
     have d:gC v (dk v (L.take i)) a=none->T (i+1)=T i:=λe=>by
      rw[e] at eK;rw[<-eK];apply Eo;rw[C,aaj (by rw[wY,aas];omega),wY,aas,List.getElem?_replicate,if_pos an]
     have S1:T (i+1)=T i->∀r,ak (H.length+2) (H++some (.cells (ax .u32 v))::some (.cells (kn (T i)))::r)=g (i+1):=λe r=>by rw[<-e];exact M r
     cases R with
     | none =>
      have K:=S1 (d t)
      simp(disch:=omega)[K,gV,av,w,bA,-aab]
     | some l =>
      cases U with
      | none =>
       have K:=S1 (d t)
       simp(disch:=omega)[K,iG,leFn,gV,av,w,bA,-aab]
      | some r =>
       cases hd:(cC a.op l r).2 with
       | false =>
        have K:=S1 (d (by rw[t,gL];simp only[hd,aaE,if_false]))
        simp(disch:=omega)[hd,K,iG,leFn,gV,av,w,bA,-aab]
       | true =>
        rw[gL] at t;simp only[hd,if_true] at t;rw[t] at s;simp only[abp,acr,aav,abf] at s;simp(disch:=omega)[hd,iG,aB,leFn,D,PC,gV,s,M,av,w,bA,-aab]
  .obtain rfl:i=n+1:=by omega
   obtain⟨o,ho⟩:∃o,(dk v L)[n]?=some o:=⟨_,lf (by rw[wY];omega)⟩
   have Ka:dq v L n=o:=by rw[dq,if_pos W];simp[ho]
   have hu:(T (n+1))[n]?=some o:=by rw[Tg (n+1) n an an,<-LP,abg,if_pos an,ho]
   have LD:=zwm hu;rw[adg] at LD;have D:=Tl (n+1) an;rw[I];have jl:((n:Int)<(n:Int)+1)=True:=ah7
   have k1:((kn (T (n+1))).drop (n*2)).take 1=[.int .u32 (o.getD 0:Nat)]:=by have:=congrArg (List.take 1) LD;rwa[List.take_take] at this
   have k2:((kn (T (n+1))).drop (n*2+1)).take 1=[.bool o.isSome]:=by have:=congrArg (List.drop 1) LD;rw[List.drop_take,abc] at this;exact this
   simp(disch:=omega)[Ka,iG,aB,PC,D,jl,k1,k2,fM]
open Go Go.RowKit
variable {G:aL}
structure Md where
 kind:Int
 i:Int
 op:Int
 x:Int
 y:Int
 c:Nat
def Md.cs(a:Md):List V:=[.int .i64 a.kind,.int .i64 a.i,.int .i64 a.op,.int .i64 a.x,.int .i64 a.y,.int .u32 a.c]
def mds(l:List Md):List (List V):=l.map Md.cs
@[simp] theorem zNq (l:List Md):(mds l).length=l.length:=by simp[mds]
def zwn(l:List Md)(i:Int):Bool:=decide (0<=i/\i<l.length)&&(match l[i.toNat]? with|some a=>decide (a.kind≠4)|none=>false)
def abq(v:List Nat)(b:List (Option Nat))(a:Md):Option Nat :=
 if a.kind=0 then some a.c else if a.kind=1 then some (v[a.i.toNat]?.getD 0) else if a.kind=2 then gL a.op b[a.x.toNat]?.join b[a.y.toNat]?.join
 else if a.kind=3 then(b[a.x.toNat]?.join).map oJ else none
def refs(v:List Nat)(l:List Md):List (Option Nat):=l.foldl (λb a=>b++[abq v b a]) []
section
variable {v:List Nat} {l:List Md}
def abr(l:List Md):Prop:=∀(i:Nat) (a:Md),l[i]?=some a->a.c<4294967296/\(a.kind=0\/a.kind=1/\0<=a.i/\a.i<34\/a.kind=2/\0<=a.x/\a.x<i/\0<=a.y/\a.y<i\/a.kind=3/\0<=a.x/\a.x<i\/a.kind=4)
end
open Go Go.RowKit
variable {G:aL}
variable {H:ae} {b z m:Nat} {L:List Nd}
def atI(l:List Int)(i:Int):Int:=if 0<=i/\i<l.length then l[i.toNat]?.getD 0 else -1
structure MS where
 L:List Nd
 ids:List Int
 made:List Md
def zwo{kind:Int}{a c:Nd}(h:Inv L)(i:a.wf)(j:c.wf):Ext L (ly L kind a c).2.2 1:=by
 cases b:gK a with
 | none=>simp only[ly,b,lu];exact .refl h 1
 | some p =>
  cases d:gK c with
  | none=>simp only[ly,b,d,lu];exact .refl h 1
  | some q =>
   cases e:z9 kind p q with
   | none=>simp only[ly,b,d,e,lu];exact .refl h 1
   | some r =>
    simp only[ly,b,d,e,mW];obtain⟨_,f,g,_⟩:=T3 e;exact(zwj h f g).1
def zoF{kind:Int}{x y n:Nat}(a:(cC kind 0 1).2=true)(b:x<n)(c:y<n):(AD kind x y).cO n :=
 ⟨⟨rfl,rfl,rfl⟩,⟨x7 35,λh=>by cases h⟩,.inr (.inr ⟨rfl,b,c,a⟩)⟩
def zsX{kind x y:Int}(h:Inv L):Ext L (iH L kind x y).2 2:=by
 rw[iH];split
 case isFalse=>exact .refl h 2
 rename_i d;obtain⟨d,j,k⟩:=d
 obtain⟨l,q⟩:0<=x/\x<L.length:=by simpa[cE] using j
 obtain⟨m,r⟩:0<=y/\y<L.length:=by simpa[cE] using k
 obtain⟨n,rfl⟩:=aaF l;obtain⟨o,rfl⟩:=aaF m;obtain⟨a,g⟩:∃a,L[n]?=some a:=⟨_,lf an⟩;obtain⟨c,i⟩:∃c,L[o]?=some c:=⟨_,lf an⟩;have e:=h.cO _ _ g;have f:=h.cO _ _ i;simp only[adl,g,i,s9];have b:=zqK (kind:=kind) h e.1 f.1 e.2.1 f.2.1;have p:=zwo (kind:=kind) b.inv e.2.1 f.2.1;have s:=b.pre.length_le;split
 .exact b.mono an
 .split
  .exact b.trans p
  .split
   .exact b.mono an
   .split
    .exact b.mono an
    .split
     .exact b.trans (wX b.inv (zoF d an an)).1
     .exact b.trans (wX b.inv (zoF d an an)).1
def LQ{i:Int}(h:Inv L):Ext L (ma L i).2 1:=by
 rw[ma];split
 .exact(wX h (z_ (T4 _) (zsT _) _)).1
 .exact .refl h 1
def zsY{x:Int}(h:Inv L):Ext L (oV L x).2 3:=by
 rw[oV];split
 .exact(T_ h).trans (zsX (T_ h).inv)
 .exact .refl h 3
variable {L:List Nd} {v:List Nat}
def dot:List Nat->List Nat->Int
 | a::f,b::v=>a*b+dot f v
 | _,_=>0
def zyv:∀(f v:List Nat),((aaY (·*·) f v).sum:Nat)=dot f v
 | [],_=>by simp[dot]
 | _::_,[]=>by simp[dot]
 | a::f,b::v=>by
  have:=zyv f v;simp only[abM,ac0,dot];omega
def Ds{c:Nat}{t:List Nat}(a:t.length=34)(b:v.length=34):(j_ (c::t) v:Int)=((c:Int)+dot t v)%4294967296:=by
 have e:(xU (c::t) v 34:Int)=dot t v:=by rw[xU,acZ,acT,aai (by simp[a,b]),zyv]
 rw[j_,acI];rw[<-e];omega
def JA(a b:Int):Prop:=∃k:Int,a=b+4294967296*k
def Ub(a:Nat):∃q:Int,((a%4294967296:Nat):Int)=(a:Int)-4294967296*q:=⟨((a/4294967296:Nat):Int),an⟩
def zyw:∀(f g v:List Nat),f.length=g.length->JA (dot (j9 f g) v) (dot f v+dot g v)
 | [],[],v,_=>⟨0,by simp[j9,dot]⟩
 | [],_::_,_,h=>by simp at h
 | _::_,[],_,h=>by simp at h
 | _::_,_::_,[],_=>⟨0,by simp[j9,dot]⟩
 | a::f,b::g,x::v,h=>by
  obtain⟨k,c⟩:=zyw f g v (by simpa using h);obtain⟨q,d⟩:=Ub (a+b);refine⟨k-q*x,?_⟩;simp only[j9,abM,dot] at c |-;rw[c,d];simp only[aab]
  grind
def zyx:∀(f g v:List Nat),f.length=g.length->(∀x∈g,x<4294967296)->JA (dot (fF f g) v) (dot f v-dot g v)
 | [],[],v,_,_=>⟨0,by simp[fF,dot]⟩
 | [],_::_,_,h,_=>by simp at h
 | _::_,[],_,h,_=>by simp at h
 | _::_,_::_,[],_,_=>⟨0,by simp[fF,dot]⟩
 | a::f,b::g,x::v,h,c=>by
  obtain⟨k,d⟩:=zyx f g v (by simpa using h) λy j=>c y (by simp[j]);obtain⟨q,i⟩:=Ub (a+4294967296-b);have l:=c b ir
  have e:((a+4294967296-b:Nat):Int)=(a:Int)+4294967296-b:=an
  rw[e] at i;refine⟨k-q*x+x,?_⟩;simp only[fF,abM,dot] at d |-;rw[d,i]
  grind
def zyy(k:Nat):∀(f v:List Nat),JA (dot (eG f k) v) (dot f v*k)
 | [],v=>⟨0,by simp[eG,dot]⟩
 | _::_,[]=>⟨0,by simp[eG,dot]⟩
 | a::f,x::v=>by
  obtain⟨j,b⟩:=zyy k f v;obtain⟨q,c⟩:=Ub (a*k);refine⟨j-q*x,?_⟩;simp only[eG,aa6,dot] at b |-;rw[b,c];simp only[abh]
  grind
def LR{f:List Nat}(a:f.length=35):∃c t,f=c::t/\t.length=34:=by
 match f,a with
 | c::t,h=>exact⟨c,t,rfl,by simpa using h⟩
def zBT{f g:List Nat}(i:f.length=35)(j:g.length=35)(a:v.length=34):j_ (j9 f g) v=(j_ f v+j_ g v)%4294967296:=by obtain⟨c,t,rfl,b⟩:=LR i;obtain⟨d,u,rfl,h⟩:=LR j;have e:j9 (c::t) (d::u)=((c+d)%4294967296)::j9 t u:=rfl;have n:=Ds (c:=c) b a;have o:=Ds (c:=d) h a;have l:=Ds (c:=(c+d)%4294967296) (t:=j9 t u) (v:=v) (by simp[j9,b,h]) a;obtain⟨k,m⟩:=zyw t u v an;rw[m] at l;rw[e];omega
def zud{f g:List Nat}(j:f.length=35)(l:g.length=35)(b:∀x∈g,x<4294967296)(a:v.length=34):j_ (fF f g) v=(j_ f v+4294967296-j_ g v)%4294967296:=by obtain⟨c,t,rfl,h⟩:=LR j;obtain⟨d,u,rfl,i⟩:=LR l;have e:fF (c::t) (d::u)=((c+4294967296-d)%4294967296)::fF t u:=rfl;have p:=Ds (c:=c) h a;have q:=Ds (c:=d) i a;have m:=Ds (c:=(c+4294967296-d)%4294967296) (t:=fF t u) (v:=v) (by simp[fF,h,i]) a;obtain⟨k,n⟩:=zyx t u v an λx o=>b x (by simp[o]);have hd:=b d ir;rw[n] at m;rw[e];omega
def zoG{f:List Nat}(k:Nat)(g:f.length=35)(a:v.length=34):j_ (eG f k) v=j_ f v*k%4294967296:=by
 obtain⟨c,t,rfl,b⟩:=LR g;have e:eG (c::t) k=(c*k%4294967296)::eG t k:=rfl;have h:=Ds (c:=c) b a;have d:=Ds (c:=c*k%4294967296) (t:=eG t k) (v:=v) (by simp[eG,b]) a;obtain⟨j,i⟩:=zyy k t v;obtain⟨q,l⟩:=Ub (c*k);rw[i,l] at d;rw[e]
 have m:(j_ (c*k%4294967296::eG t k) v:Int)=((c+dot t v)*k)%4294967296:=by
  rw[d]
  have:((c*k:Nat):Int)-4294967296*q+(dot t v*k+4294967296*j)=(c+dot t v)*k+4294967296*(j-q):=by simp only[abh];grind
  rw[this,Int.add_mul_emod_self_left]
 have n:((j_ (c::t) v*k%4294967296:Nat):Int)=((c+dot t v)*k)%4294967296:=by rw[Int.natCast_emod,abh,h,show((4294967296:Nat):Int)=4294967296 from rfl,adx,Int.emod_emod,<-adx]
 omega
def zoH:∀(n:Nat) (v:List Nat),dot (aR n) v=0
 | 0,_=>by simp[aR,dot]
 | n+1,[]=>by simp[aR,abF,dot]
 | n+1,x::v=>by
  have:=zoH n v;simp only[aR,abF,dot] at this |-;omega
def Du{c:Nat}(b:c<4294967296)(a:v.length=34):j_ (c::aR 34) v=c:=by have h:=Ds (c:=c) (t:=aR 34) (v:=v) ir a;rw[zoH] at h;omega
def zyz:∀(n i:Nat) (v:List Nat) (h:i<v.length),i<n->dot ((aR n).set i 1) v=(v[i]:Nat)
 | 0,i,v,h,hi=>by omega
 | n+1,i,[],h,hi=>by simp at h
 | n+1,0,x::v,h,hi=>by
  have:=zoH n v;simp only[aR,abF,adf,dot,List.getElem_cons_zero] at this |-
  omega
 | n+1,i+1,x::v,h,hi=>by
  have:=zyz n i v (by simpa using h) an;simp only[aR,abF,List.set_cons_succ,dot,List.getElem_cons_succ] at this |-;omega
def zoI{i:Nat}(hi:i<34)(a:v.length=34)(b:∀x∈v,x<4294967296):j_ (cJ i) v=v[i]'(by omega):=by have e:cJ i=0::(aR 34).set i 1:=rfl;have h:=Ds (c:=0) (t:=(aR 34).set i 1) (v:=v) ir a;have d:=b _ (acx (show i<v.length by omega));rw[zyz 34 i v an hi] at h;rw[e];omega
end Go.Ev
