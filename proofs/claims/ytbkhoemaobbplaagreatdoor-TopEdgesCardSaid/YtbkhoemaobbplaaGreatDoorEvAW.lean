/- Canonical values of a simplified reading of Go functions, and how they lie in the model's memory. -/
import Derived.WalkKit
import Derived.Orders
import Derived.Deep.MidRow
import Derived.Deep.AppendSrc
import Derived.Deep.Upon
import Derived.Laws.Strings
import Derived.Laws.Concat
import Derived.Laws.StructEq
import Derived.Laws.RangeAny
import Derived.ChangeKeysEq
import Derived.MapKept
import Derived.Lib.OthersKept
import Derived.Carry
import Derived.Laws.BytesString
import Derived.RangeFuncLeaves
import Derived.RangeFuncIn
import Derived.RangeFuncRecord
import Derived.OrdersIn
import Derived.TacticsIn
set_option linter.defProp false
set_option linter.unusedSimpArgs false
set_option linter.unusedVariables false
open Bool renaming and_eq_true->aaa,false_eq_true->aap,true_or->aa7,not_eq_true'->abQ,or_eq_true->ab5,false_or->acD,true_and->acE,or_true->acG
open Option renaming some->aab,map_eq_some_iff->aai,isSome_iff_exists->aaI,map_some->abi,getD_some->ab2,map_none->ab7,map->acA
open List renaming getElem?_eq_some_iff->aae,length_take->aaf,mem_of_mem_take->aak,replicate->aan,mem_of_mem_drop->aao,getElem?_set_self->aaq,length_drop->aas,getElem?_map->aau,length_map->aaw,map_cons->aaD,getElem?_take->aaE,length_append->aaF,eq_of_mem_replicate->aaG,flatten_cons->aaH,map_nil->aaJ,map_set->aaK,getElem?_append_left->aa1,map_append->aba,flatten_nil->abb,length_set->abd,getElem?_append_right->abe,getElem?_set->abf,length_cons->abg,getElem?_drop->abh,eq_nil_of_length_eq_zero->abk,mem_map->abn,take_append_drop->abp,mem_flatten->abu,flatten_append->abw,mem_append->abx,length_nil->aby,map_map->abz,all_eq_true->abD,length_replicate->abF,replicate_succ->abI,drop_drop->abJ,append_assoc->abR,size_toArray->abT,extract_eq_take_drop->abU,mem_or_eq_of_mem_set->abV,getElem?_eq_getElem->abX,getElem_mem->ab0,getElem?_replicate->ab3,foldl_cons->ab6,take_of_length_le->ab_,length_eq_one_iff->aca,getElem?_eq_none->acd,getElem?_toArray->ace,getElem?_of_mem->acf,mem_of_getElem?->acg,getElem?_range->ach,zip_cons_cons->acr,ext_getElem?->acs,range'->acw,cons_append->acx,range'_succ->acz,forIn_cons->acB,mem_cons->acF
open Nat renaming le_refl->aah,min_eq_left->aaQ,add_mul->aaY,lt_of_lt_of_le->aaZ,mul_le_mul_right->aa_,one_mul->abj,le_trans->abm,le_of_eq->abA,add_zero->abH,zero_add->ab1,le_mul_of_pos_right->ab4,zero_le->ab9,mul_div_cancel->acn,sub_zero->acq,mul_one->acI,mod_lt->acP
open Array renaming getElem?_toList->aaj,getElem?_eq_some_iff->aav,getD_eq_getD_getElem?->aaA,length_toList->aaU,getElem?_eq_getElem->aa2,ext'->abc,getElem?_modify->abt,getElem?_setIfInBounds_self_of_lt->abv,toList_push->abB,all_eq_true_iff_forall_mem->abC,getElem?_setIfInBounds_ne->abG,range->abM,getElem?_push->acj,foldl_toList->ack,toList_range->acm,toList_map->acy
open BitVec renaming ofInt->aa6
open Prod renaming mk->abW
open UInt8 renaming ofNat->ab8
namespace Go.Ev
theorem bb{α:Sort _}(a:α):∃x,x=a:=⟨a,rfl⟩
theorem ah7{p:Prop}(h:p:=by omega):p=True:=eq_true h
theorem ah8{p:Prop}(h:¬p:=by omega):p=False:=eq_false h
theorem ah9{p:Prop}(h:p:=by decide):p:=h
def an{p:Prop}(h:p:=by omega):p:=h
def ir{p:Prop}(h:p:=by simp):p:=h
open Go Go.RowKit
inductive Tk where
 | no|full|own (q:Nat)
 deriving DecidableEq
inductive V where
 | undef
 | mq
 | any
 | int (k:IntKind) (n:Int)
 | bool (b:Bool)
 | str (s:List UInt8)
 | nilp
 | ptr (id off:Nat)
 | cptr (cs:List V)
 | vs (es:List (List V)) (tk:Tk)
 | rs (id off n sz:Nat)
 | fn (f:Nat) (cap:List V)
 | nilf
 | agg (cs:List V)
 | bc (cs:List V)
 | mp (id:Nat)
 | nilm
 | yld (id:Nat)
 | gs (id n:Nat)
inductive X where
 | t (i:Nat)
 | c (v:V)
inductive Kd where
 | int|bool|str
 deriving DecidableEq
inductive Ky where
 | sc (k:Kd)
 | row (ks:List Kd)
@[simp] def Ky.isRow:Ky->Bool
 | .sc _=>false
 | .row _=>true
inductive dW where
 | mv (x:X)
 | pick (c a b:X)
 | box (s:Nat) (x:X)
 | alloc (s:Nat) (z:List V)
 | build (z:List V) (ps:List (Nat×Nat×X))
 | bslice (n:Nat) (z:List V) (ps:List (Nat×X))
 | load (sz:Nat) (ag old:Bool) (x:X)
 | store (sz:Nat) (a x:X)
 | p9 (off:Nat) (x:X)
 | Hv (off sz:Nat) (ag:Bool) (x:X)
 | re (sz:Nat) (x i:X)
 | m9 (len sz:Nat) (x i:X)
 | idx (len sz:Nat) (ag:Bool) (x i:X)
 | bin (op:BinOp) (x y:X)
 | beq (neg:Bool) (x y:X)
 | un (op:UnOp) (x:X)
 | conv (k:IntKind) (x:X)
 | mkfn (f:Nat) (cap:List X)
 | ext (i:Nat) (x:X)
 | len (st:Bool) (x:X)
 | app (s sz bytes:Nat) (x y:X)
 | slc (sz:Nat) (x:X) (lo hi mx:Option X)
 | rf (x:X)
 | qt (s bytes:Nat) (z:List V) (n:X)
 | Hw (ks:List Kd) (neg:Bool) (x y:X)
 | p_ (k:Nat) (neg:Bool) (x:X)
 | mm (mx:Bool) (xs:List X)
 | xe (x i:X)
 | sslc (x:X) (lo hi:Option X)
 | Hx (x:X)
 | Hy (x:X)
 | ri (s:Nat)
 | ur (ks:Ky) (ok:Bool) (z:V) (x k:X)
 | mput (ks:Ky) (x k v:X)
 | vw (ks:Ky) (z:V) (x k:X)
 | FA (x i v:X)
 | FB (s:Nat) (x:X)
 | yk (x:X)
 | xf (len sz:Nat) (x:X) (lo hi:Option X)
 | FC (sz:Nat) (x y:X)
 | loadR (sz:Nat) (ag:Bool) (r:Nat) (x:X)
 | storeA (sz:Nat) (rs:List Nat) (a x:X)
 | bsliceR (s n:Nat) (z:List V) (ps:List (Nat×X))
 | tv (sz:Nat) (ag:Bool) (x:X)
 | jX (s sz:Nat) (a x:X)
 | kcall (ro:Bool) (f:Nat) (xs:List X)
 | pcall (f:Nat) (xs:List X)
 | scall (f:Nat) (xs:List X)
 | vcall (ro:Bool) (f:X) (xs:List X)
 | scallA (rs:List Nat) (f:Nat) (xs:List X)
 | scallE (f:Nat) (xs:List X)
 | jO (s n:Nat) (z:List V) (ps:List (Nat×X))
 | mark (x:X)
 | loadA (sz:Nat) (ag:Bool) (rs:List Nat) (x:X)
 | storeT (sz r:Nat) (a x:X)
structure aF where
 dst:Option Nat
 op:dW
 guard:Option (Nat×Bool)
inductive bg where
 | skip
 | region (m:Nat) (ops:List aF)
 | seq (a b:bg)
 | cond (c:X) (a b:bg)
 | block (id:Nat) (c:bg)
 | loop (l:List Nat) (c:bg)
 | exit (id:Nat)
 | ret
 | keep (l:List Nat)
 | give (t:Nat) (off:Option Nat)
 | freeze (t:Nat)
 | iw (g:X) (l ps:List Nat) (as bo:bg)
 | nat (k:Nat)
inductive Ex where
 | nx|exit (id:Nat)|ret
 deriving DecidableEq
inductive jw where
 | tmp (t:Nat)
 | cell (t sz:Nat) (ag:Bool)
inductive AI where
 | ready
 | busy
 | done (x:Ex)
 | over
def V.fC:V->Bool
 | .undef|.mq|.agg _|.bc _=>false
 | _=>true
def V.pure:V->Bool
 | .int _ _|.bool _|.str _|.nilp|.cptr _|.nilf|.nilm=>true
 | .vs _ (.own _)=>false
 | .vs _ _=>true
 | .fn _ []=>true
 | _=>false
def V.cw{c:V}(h:c.pure=true):c.fC=true:=by cases c<;>simp_all [V.pure,V.fC]
structure Z where
 n:Nat
 cI:Option Nat
 cap:Nat
 sz:Nat
structure Fm where
 fn:Nat->FuncId
 gl:Nat->Option (List V)
 u6:Nat->bg->Code->Prop
instance:CoeFun Fm λ_=>Nat->FuncId:=⟨Fm.fn⟩
structure Mm where
 al:Nat->Bool
 j:Nat->Nat
 gS:Nat->Option Nat
 z:Nat->Z
 fm:Fm
def Rd(M:Mm)(b o:Nat):Prop:=∀l,M.gS b=some l->o<l
def mr(M:Mm)(es:List (List V))(a:Option Addr)(cap:Nat):Tk->Prop
 | .no=>True
 | .full=>cap=es.length
 | .own q=>M.al q=true/\es.length<=(M.z q).n/\(es.length=(M.z q).n->cap=(M.z q).cap /\
   match(M.z q).cI with
   | none=>cap=es.length
   | some b=>a=some ⟨b,0,none⟩/\∀e∈es,e.length=(M.z q).sz)
mutual
def ar(M:Mm)(w:World):V->Value->Prop
 | .undef,_=>True
 | .mq,v=>v=undef
 | .any,v=>v.oneCell'=true
 | .int k n,v=>v=.int k n
 | .bool b,v=>v=.bool b
 | .str s,v=>v=.string ⟨s.toArray⟩
 | .nilp,v=>v=.pointer none
 | .ptr id h,v=>M.al id=true/\v=.pointer (some ⟨M.j id,h,none⟩)
 | .cptr i,v=>(∀c∈i,c.pure=true)/\∃b o,v=.pointer (some ⟨b,o,none⟩)/\fL M w b i o
 | .vs g tk,v=>(∀e∈g,∀c∈e,c.pure=true)/\∃a d,v=.slice a g.length d/\g.length<=d /\
   (match a with
    | none=>g=[]/\d=0
    | some l=>(g=[]\/l.spot=none)/\(∃m,∀e∈g,e.length=m)/\gE M w l.block g l.off)/\mr M g a d tk
 | .rs id h n _,v=>M.al id=true/\∃d,v=.slice (some ⟨M.j id,h,none⟩) n d/\n<=d
 | .fn f d,v=>∃xs:List Value,v=.func (.func (M.fm f)) #[] xs.toArray/\ai M w d xs
 | .nilf,v=>v=.nilFunc
 | .agg i,v=>(∀c∈i,c.fC=true)/\∃xs:List Value,v=.agg xs.toArray/\ai M w i xs
 | .bc i,v=>∃xs:List Value,v=.tuple xs.toArray/\ai M w i xs
 | .mp id,v=>M.al id=true/\v=.map (some (M.j id))
 | .nilm,v=>v=.map none
 | .yld id,v=>M.al id=true/\v=.func (.yield (M.j id)) #[] #[]
 | .gs id n,v=>M.al id=true/\∃d,v=.slice (some ⟨M.j id,0,none⟩) n d/\n<=d/\((M.z id).n=0->d=(M.z id).cap)
def ai(M:Mm)(w:World):List V->List Value->Prop
 | [],xs=>xs=[]
 | c::b,xs=>∃x a,xs=x::a/\ar M w c x/\ai M w b a
def fL(M:Mm)(w:World)(b:Nat):List V->Nat->Prop
 | [],_=>True
 | c::a,o=>(∃x,w.cell? ⟨b,o,none⟩=some x/\Rd M b o/\ar M w c x)/\fL M w b a (o+1)
def gE(M:Mm)(w:World)(b:Nat):List (List V)->Nat->Prop
 | [],_=>True
 | e::a,o=>fL M w b e o/\gE M w b a (o+e.length)
end
inductive ay where
 | cells (cs:List V)
 | zone (n:Nat)
 | jx (cs:List V)
 | map (es:List (V×V))
 | dF (s:List UInt8) (pos:Nat)
 | loop (e0:List (Nat×V)) (ps:List Nat) (as bo:bg) (st:AI)
 | grow (cs:List V) (sz:Nat) (fu:Bool)
abbrev ae:=List (Option ay)
def aV(M:Mm)(H:ae)(id:Nat):Option Nat :=
 match H[id]? with
 | some (some (.zone _))=>(M.z id).cI
 | some (some _)=>some (M.j id)
 | _=>none
def u7(M:Mm)(H:ae)(b:Nat):Prop:=∃id,aV M H id=some b
def zHw:Ex->Code
 | .nx=>.skip
 | .exit id=>.exit id
 | .ret=>.ret
def V4:AI->Loop->Prop
 | .ready,r=>r.state=.ready/\r.pending=none
 | .busy,r=>r.state=.busy
 | .done x,r=>r.state=.done/\r.pending=some (zHw x)
 | .over,_=>True
def LPs(ps:List Nat)(r:Loop):Prop:=r.params.toList=ps/\∀p∈ps,p<r.tmps.size
def aM(M:Mm)(w:World)(id:Nat):ay->Prop
 | .cells a=>(∀c∈a,c.fC=true)/\M.gS (M.j id)=some 0/\∃xs e,w.heap[M.j id]?=some (.cells xs e (0,0))/\ai M w a (xs.toList.take a.length)
 | .grow a f g=>(∀c∈a,c.fC=true)/\M.gS (M.j id)=some 0/\(M.z id).n=0/\(M.z id).sz=f/\∃xs e,w.heap[M.j id]?=some (.cells xs e (0,0))/\xs.size=(M.z id).cap*f/\ai M w a (xs.toList.take a.length)/\(g=true->xs.size=a.length)
 | .zone n=>(M.z id).n=n /\
   match(M.z id).cI with
   | none=>(M.z id).cap=n
   | some b=>0<n/\n<=(M.z id).cap/\0<(M.z id).sz/\M.gS b=some (n*(M.z id).sz)/\∃xs e,w.heap[b]?=some (.cells xs e (0,0))/\xs.size=(M.z id).cap*(M.z id).sz
 | .jx a=>(∀c∈a,c.pure=true)/\M.gS (M.j id)=some a.length/\∃xs e,w.heap[M.j id]?=some (.cells xs e (0,0))/\ai M w a (xs.toList.take a.length)
 | .map d=>M.gS (M.j id)=some 0/\∃ents:Array MapEntry,w.heap[M.j id]?=some (.map ents d.length)/\ai M w (d.map (·.1)) (ents.toList.map (·.key))/\ai M w (d.map (·.2)) (ents.toList.map (·.val)) /\
   ∀(i:Nat) (x:MapEntry),ents[i]?=some x->x.born=i
 | .dF s pos=>M.gS (M.j id)=some 0/\w.heap[M.j id]?=some (.stringIter ⟨s.toArray⟩ pos)
 | .loop h k as bo st=>M.gS (M.j id)=some 0/\∃r:Loop,w.heap[M.j id]?=some (.loop r)/\V4 st r/\LPs k r/\M.fm.u6 r.tmps.size as r.assign/\M.fm.u6 r.tmps.size bo r.body /\
   ∀p∈h,ar M w p.2 (r.tmps.getD p.1 undef)
def CD(M:Mm)(w:World):Prop:=∀g cs,M.fm.gl g=some cs->ar M w (.cptr cs) (.pointer (some ⟨g,0,none⟩))
structure aI (M:Mm) (w:World) (H:ae):Prop where
 si:∀id,M.al id=true↔∃cI,H[id]?=some (some cI)
 rel:∀id cI,H[id]?=some (some cI)->aM M w id cI
 inj:∀id sj b,aV M H id=some b->aV M H sj=some b->id=sj
 pa:CD M w
def vz(a b:Z):Prop:=a.n<=b.n/\(a.n=b.n->a=b)
def vz.refl(a:Z):vz a a:=⟨aah _,λ_=>rfl⟩
def vz.trans{a b c:Z}(h:vz a b)(k:vz b c):vz a c :=
 ⟨abm h.1 k.1,λe=>by have d:=h.1;have f:=k.1;rw[h.2 an,k.2 an]⟩
structure eH (M:Mm) (H:ae) (w:World) (M':Mm) (H':ae) (w':World):Prop where
 os:w'.os=w.os
 tape:w'.tape=w.tape
 output:w'.output=w.output
 size:w.heap.size<=w'.heap.size
 same:∀b,b<w.heap.size->¬u7 M H b->w'.heap[b]?=w.heap[b]?
 cells:∀b l o,b<w.heap.size->M.gS b=some l->o<l->w'.cell? ⟨b,o,none⟩=w.cell? ⟨b,o,none⟩
 oj:∀b,b<w.heap.size->M.gS b=none->M'.gS b=none
 jy:∀b l,b<w.heap.size->M.gS b=some l->∃l',M'.gS b=some l'/\l<=l'
 limo:∀b,b<w.heap.size->¬u7 M H b->M'.gS b=M.gS b
 own:∀b,b<w.heap.size->u7 M' H' b->u7 M H b
 fm:M'.fm=M.fm
def e_(M M':Mm)(n:Nat):Prop:=∀id,id<n->M.al id=true->M'.al id=true/\M'.j id=M.j id/\vz (M.z id) (M'.z id)
def e_.refl(M:Mm)(n:Nat):e_ M M n:=λ_ _ h=>⟨h,rfl,vz.refl _⟩
def e_.trans{M M' d:Mm}{n m:Nat}(h:e_ M M' n)(k:e_ M' d m)(i:n<=m):e_ M d n:=λid hi e=>by
 obtain⟨a,b,c⟩:=h id hi e;obtain⟨f,g,c'⟩:=k id an a;exact⟨f,g.trans b,c.trans c'⟩
def e_.mono{M M':Mm}{n m:Nat}(h:e_ M M' n)(a:m<=n):e_ M M' m:=λid hi=>h id an
def aI.lt{M:Mm}{w:World}{H:ae}(h:aI M w H){id:Nat}(a:M.al id=true):id<H.length:=by obtain⟨c,b⟩:=(h.si id).1 a;exact(aae.1 b).1
def eH.refl(M:Mm)(H:ae)(w:World):eH M H w M H w :=
 ⟨rfl,rfl,rfl,aah _,λ_ _ _=>rfl,λ_ _ _ _ _ _=>rfl,λ_ _ h=>h,λ_ l _ h=>⟨l,h,aah _⟩,λ_ _ _=>rfl,λ_ _ h=>h,rfl⟩
def eH.trans{M M' g:Mm}{H H' a:ae}{w w' i:World}(h:eH M H w M' H' w')(k:eH M' H' w' g a i):eH M H w g a i where
 os:=k.os.trans h.os
 tape:=k.tape.trans h.tape
 output:=k.output.trans h.output
 size:=abm h.size k.size
 same b hb ho:=(k.same b (aaZ hb h.size) (λo=>ho (h.own b hb o))).trans (h.same b hb ho)
 cells b l o hb hl ho:=by obtain⟨c,d,e⟩:=h.jy b l hb hl;exact(k.cells b c o (aaZ hb h.size) d an).trans (h.cells b l o hb hl ho)
 oj b hb hl:=k.oj b (aaZ hb h.size) (h.oj b hb hl)
 jy b l hb hl:=by obtain⟨c,d,e⟩:=h.jy b l hb hl;obtain⟨f,j,m⟩:=k.jy b c (aaZ hb h.size) d;exact⟨f,j,an⟩
 limo b hb ho:=(k.limo b (aaZ hb h.size) (λo=>ho (h.own b hb o))).trans (h.limo b hb ho)
 own b hb o:=h.own b hb (k.own b (aaZ hb h.size) o)
 fm:=k.fm.trans h.fm
def aI.tw{M:Mm}{w:World}{H:ae}(h:aI M w H){b:Nat}(e:u7 M H b):∃l,M.gS b=some l:=by
 obtain⟨id,a⟩:=e;unfold aV at a;split at a
 .rename_i n c;have:=h.rel id _ c;simp only[aM,a] at this;exact⟨_,this.2.2.2.2.1⟩
 .rename_i f g c;simp only[aab.injEq] at a;subst a;have:=h.rel id _ c
  cases f with
  | zone n=>exact absurd rfl (g n)
  | cells d=>simp only[aM] at this;exact⟨_,this.2.1⟩
  | jx d=>simp only[aM] at this;exact⟨_,this.2.1⟩
  | map i=>simp only[aM] at this;exact⟨_,this.1⟩
  | dF t pos=>simp only[aM] at this;exact⟨_,this.1⟩
  | loop j k as bo st=>simp only[aM] at this;exact⟨_,this.1⟩
  | grow d m o=>simp only[aM] at this;exact⟨_,this.2.1⟩
 .cases a
def eH.rd{M M':Mm}{H H':ae}{w w':World}(h:eH M H w M' H' w')(i:aI M w H){b o:Nat}{x:Value}
  (e:w.cell? ⟨b,o,none⟩=some x) (rd:Rd M b o):w'.cell? ⟨b,o,none⟩=some x/\Rd M' b o:=by
 have d:b<w.heap.size:=World.block_lt_of_cell? w _ e
 cases c:M.gS b with
 | none =>
  have j:¬u7 M H b:=λf=>by obtain⟨l,a⟩:=i.tw f;rw[c] at a;cases a
  exact⟨(World.cell?_of_block (w:=w) (h.same b d j)).trans e,λl a=>by rw[h.oj b d c] at a;cases a⟩
 | some l =>
  have f:=rd l c;obtain⟨m,a,k⟩:=h.jy b l d c;exact⟨(h.cells b l o d c f).trans e,λn g=>by rw[a] at g;cases g;omega⟩
def ik{M:Mm}{w:World}:∀{cs:List V} {xs:List Value},ai M w cs xs->xs.length=cs.length
 | [],xs,h=>by simp only[ai] at h;simp[h]
 | c::cs,xs,h=>by
  simp only[ai] at h;obtain⟨x,a,rfl,_,h⟩:=h;simp[ik h]
def ou{M:Mm}{w:World}:∀{cs:List V} {xs:List Value},ai M w cs xs->∀{i:Nat} {c:V},cs[i]?=some c->∃x,xs[i]?=some x/\ar M w c x
 | [],_,_,i,c,a=>by simp at a
 | c::cs,xs,h,i,c',a=>by
  simp only[ai] at h;obtain⟨x,d,rfl,b,h⟩:=h
  cases i with
  | zero=>simp at a;subst a;exact⟨x,ir,b⟩
  | succ i=>simp at a;simpa using ou h a
def AJ{M:Mm}{w:World}:∀{cs:List V} {xs:List Value},xs.length=cs.length->(∀(i:Nat) (c:V) (x:Value),cs[i]?=some c->xs[i]?=some x->ar M w c x)->ai M w cs xs
 | [],xs,a,_=>by simp only[ai];exact abk a
 | c::cs,[],a,_=>by simp at a
 | c::cs,x::xs,a,h=>by
  simp only[ai];exact⟨x,xs,rfl,h 0 c x ir ir,AJ (by simpa using a) (λi c' b d e=>h (i+1) c' b (by simpa using d) (by simpa using e))⟩
def zj{M:Mm}{w:World}{cs ds:List V}{xs ys:List Value}(h:ai M w cs xs)(k:ai M w ds ys):ai M w (cs++ds) (xs++ys):=by
 have f:=ik h;have g:=ik k;refine AJ (by simp[f,g]) λi c x d a=>?_;rw[List.getElem?_append] at d a;rw[f] at a;split at d
 .rename_i hi;rw[if_pos hi] at a;obtain⟨j,b,e⟩:=ou h d;rw[a] at b;cases b;exact e
 .rename_i hi;rw[if_neg hi] at a;obtain⟨j,b,e⟩:=ou k d;rw[a] at b;cases b;exact e
def wJ{M:Mm}{w:World}{cs:List V}{xs:List Value}(h:ai M w cs xs)(n:Nat):ai M w (cs.take n) (xs.take n):=by
 have e:=ik h;refine AJ (by simp[e]) λi c x a b=>?_;rw[aaE] at a b;split at a
 .rename_i hi;rw[if_pos hi] at b;obtain⟨g,d,f⟩:=ou h a;rw[b] at d;cases d;exact f
 .cases a
def yl{M:Mm}{w:World}{cs:List V}{xs:List Value}(h:ai M w cs xs)(n:Nat):ai M w (cs.drop n) (xs.drop n):=by have e:=ik h;refine AJ (by simp[e]) λi c x a b=>?_;rw[abh] at a b;obtain⟨g,d,f⟩:=ou h a;rw[b] at d;cases d;exact f
def V6{M:Mm}{w:World}{b:Nat}:∀{cs:List V} {o:Nat},fL M w b cs o->∀{i:Nat} {c:V},cs[i]?=some c->∃x,w.cell? ⟨b,o+i,none⟩=some x/\Rd M b (o+i)/\ar M w c x
 | [],_,_,i,c,a=>by simp at a
 | c::cs,o,h,i,c',a=>by
  simp only[fL] at h;obtain⟨⟨x,d,e,f⟩,h⟩:=h
  cases i with
  | zero=>simp at a;subst a;exact⟨x,by simpa using d,by simpa using e,f⟩
  | succ i =>
   simp at a;have:=V6 h a;rw[show o+1+i=o+(i+1) by omega] at this;exact this
def DG{M:Mm}{w:World}{b:Nat}:∀{cs:List V} {o:Nat},(∀(i:Nat) (c:V),cs[i]?=some c->∃x,w.cell? ⟨b,o+i,none⟩=some x/\Rd M b (o+i)/\ar M w c x)->fL M w b cs o
 | [],_,_=>by simp only[fL]
 | c::cs,o,h=>by
  simp only[fL];refine⟨by simpa using h 0 c ir,DG λi c' a=>?_⟩;rw[show o+1+i=o+(i+1) by omega];exact h (i+1) c' (by simpa using a)
def znM{M:Mm}{w:World}{b:Nat}{cs ds:List V}{o:Nat}:fL M w b (cs++ds) o↔fL M w b cs o/\fL M w b ds (o+cs.length):=by
 induction cs generalizing o with
 | nil=>simp[fL]
 | cons c cs a =>
  simp only[acx,fL,a,abg];rw[show o+1+cs.length=o+(cs.length+1) by omega];exact and_assoc.symm
def Kl{M:Mm}{w:World}{b:Nat}{es:List (List V)}{o:Nat}:gE M w b es o↔fL M w b es.flatten o:=by
 induction es generalizing o with
 | nil=>simp[fL,gE]
 | cons e es a=>simp only[gE,aaH,znM,a]
def V7{M:Mm}{w:World}{b:Nat}{es fs:List (List V)}{o:Nat}:gE M w b (es++fs) o↔gE M w b es o/\gE M w b fs (o+es.flatten.length):=by simp only[Kl,abw,znM]
def V8{M:Mm}{w:World}{c:V}{x:Value}(h:ar M w c x)(a:c.fC=true):x.oneCell'=true:=by
 cases c<;>simp only[V.fC,aap] at a<;>simp only[ar] at h
 case any=>exact h
 case int=>subst h;rfl
 case bool=>subst h;rfl
 case str=>subst h;rfl
 case nilp=>subst h;rfl
 case ptr=>obtain⟨_,rfl⟩:=h;rfl
 case cptr=>obtain⟨_,_,_,rfl,_⟩:=h;rfl
 case vs=>obtain⟨_,_,_,rfl,_⟩:=h;rfl
 case rs=>obtain⟨_,_,rfl,_⟩:=h;rfl
 case fn=>obtain⟨_,rfl,_⟩:=h;rfl
 case nilf=>subst h;rfl
 case mp=>obtain⟨_,rfl⟩:=h;rfl
 case nilm=>subst h;rfl
 case yld=>obtain⟨_,rfl⟩:=h;rfl
 case gs=>obtain⟨_,_,rfl,_⟩:=h;rfl
mutual
def ar.step{M M':Mm}{H H':ae}{w w':World}(h:eH M H w M' H' w')(d:aI M w H)(hi:e_ M M' H.length):∀{c:V} {x:Value},ar M w c x->ar M' w' c x
 | .undef,_,_=>by simp only[ar]
 | .mq,_,e=>by simpa only[ar] using e
 | .any,_,e=>by simpa only[ar] using e
 | .int _ _,_,e=>by simpa only[ar] using e
 | .bool _,_,e=>by simpa only[ar] using e
 | .str _,_,e=>by simpa only[ar] using e
 | .nilp,_,e=>by simpa only[ar] using e
 | .ptr id k,_,e=>by
  simp only[ar] at e |-;obtain⟨a,b,_⟩:=hi id (d.lt e.1) e.1
  exact⟨a,by rw[b];exact e.2⟩
 | .cptr m,_,e=>by
  simp only[ar] at e |-;obtain⟨p,b,o,g,e⟩:=e
  exact⟨p,b,o,g,fL.step h d hi e⟩
 | .vs D tk,_,e=>by
  simp only[ar] at e |-;obtain⟨p,a,i,g,l,j,r⟩:=e;refine⟨p,a,i,g,l,?_,?_⟩
  .cases a with
   | none=>exact j
   | some E=>exact⟨j.1,j.2.1,gE.step h d hi j.2.2⟩
  .cases tk with
   | no=>trivial
   | full=>exact r
   | own q =>
    obtain⟨s,y,A⟩:=r;obtain⟨B,_,z⟩:=hi q (d.lt s) s;refine⟨B,abm y z.1,λt=>?_⟩;have u:=z.1
    have:(M.z q).n=(M'.z q).n:=an
    have:=z.2 this;rw[<-this] at t |-
    exact A t
 | .rs id k n _,_,e=>by
  simp only[ar] at e |-;obtain⟨a,b,_⟩:=hi id (d.lt e.1) e.1
  exact⟨a,by rw[b];exact e.2⟩
 | .fn f i,_,e=>by
  simp only[ar] at e |-;obtain⟨xs,g,e⟩:=e
  exact⟨xs,by rw[h.fm];exact g,ai.step h d hi e⟩
 | .nilf,_,e=>by simpa only[ar] using e
 | .nilm,_,e=>by simpa only[ar] using e
 | .mp id,_,e=>by
  simp only[ar] at e |-;obtain⟨a,b,_⟩:=hi id (d.lt e.1) e.1
  exact⟨a,by rw[b];exact e.2⟩
 | .yld id,_,e=>by
  simp only[ar] at e |-;obtain⟨a,b,_⟩:=hi id (d.lt e.1) e.1
  exact⟨a,by rw[b];exact e.2⟩
 | .gs id n,_,e=>by
  simp only[ar] at e |-;obtain⟨a,b,z⟩:=hi id (d.lt e.1) e.1;obtain⟨_,i,g,l,u⟩:=e;refine⟨a,i,by rw[b];exact g,l,λv=>?_⟩;have F:=z.1;have C:=z.2 an;rw[<-C] at v |-
  exact u v
 | .agg m,_,e=>by
  simp only[ar] at e |-;obtain⟨p,xs,g,e⟩:=e
  exact⟨p,xs,g,ai.step h d hi e⟩
 | .bc m,_,e=>by
  simp only[ar] at e |-;obtain⟨xs,g,e⟩:=e;exact⟨xs,g,ai.step h d hi e⟩
def ai.step{M M':Mm}{H H':ae}{w w':World}(h:eH M H w M' H' w')(a:aI M w H)(hi:e_ M M' H.length):∀{cs:List V} {xs:List Value},ai M w cs xs->ai M' w' cs xs
 | [],_,e=>by simpa only[ai] using e
 | c::cs,_,e=>by
  simp only[ai] at e |-;obtain⟨x,b,d,f,g⟩:=e;exact⟨x,b,d,ar.step h a hi f,ai.step h a hi g⟩
def fL.step{M M':Mm}{H H':ae}{w w':World}(h:eH M H w M' H' w')(a:aI M w H)(hi:e_ M M' H.length){b:Nat}:∀{cs:List V} {o:Nat},fL M w b cs o->fL M' w' b cs o
 | [],_,_=>by simp only[fL]
 | c::cs,o,e=>by
  simp only[fL] at e |-;obtain⟨⟨x,d,rd,f⟩,g⟩:=e;have:=h.rd a d rd;exact⟨⟨x,this.1,this.2,ar.step h a hi f⟩,fL.step h a hi g⟩
def gE.step{M M':Mm}{H H':ae}{w w':World}(h:eH M H w M' H' w')(a:aI M w H)(hi:e_ M M' H.length){b:Nat}:∀{es:List (List V)} {o:Nat},gE M w b es o->gE M' w' b es o
 | [],_,_=>by simp only[gE]
 | e::es,o,k=>by
  simp only[gE] at k |-;exact⟨fL.step h a hi k.1,gE.step h a hi k.2⟩
end
def CD.step{M M':Mm}{H H':ae}{w w':World}(h:eH M H w M' H' w')(a:aI M w H)(hi:e_ M M' H.length)(g:CD M w):CD M' w' :=
 λk b c=>ar.step h a hi (g k b (by rw[<-h.fm];exact c))
end Go.Ev
namespace Go.Ev
open Go Go.RowKit
abbrev Env:=Nat->V
def Env.put(e:Env)(d:Option Nat)(v:V):Env :=
 match d with
 | some d=>λi=>if i=d then v else e i
 | none=>e
def Env.jg(e:Env)(d:Nat)(v:V)(i:Nat):(e.put (some d) v) i=if i=d then v else e i:=rfl
def il:List (Nat×V)->Env
 | []=>λ_=>.undef
 | (d,v)::l=>λi=>if i=d then v else il l i
def look(e:Env):List Nat->List (Nat×V)
 | []=>[]
 | i::l=>(i,e i)::look e l
def sI:List Nat->List V->Env->Env
 | p::a,v::vs,e=>sI a vs (e.put (some p) v)
 | _,_,e=>e
def X.ev(e:Env):X->V
 | .t i=>e i
 | .c v=>v
def V.cells?:V->Option (List V)
 | .undef|.mq|.bc _=>none
 | .agg a=>some a
 | v=>some [v]
def mk(a:Bool)(cs:List V):Option V :=
 if a then some (.agg cs) else match cs with|[c]=>some c|_=>none
def Tk.cl(n:Nat):Tk->Tk
 | .own q=>if q<n then .own q else .no
 | .no=>.no
 | .full=>.full
mutual
def V.cl(n:Nat):V->V
 | .ptr id a=>if id<n then .ptr id a else .any
 | .rs id a k e=>if id<n then .rs id a k e else .any
 | .vs g tk=>.vs g (tk.cl n)
 | .fn f d=>.fn f (aZ n d)
 | .agg c=>.agg (aZ n c)
 | .bc c=>.bc (aZ n c)
 | .undef=>.undef
 | .mq=>.mq
 | .any=>.any
 | .int k i=>.int k i
 | .bool b=>.bool b
 | .str s=>.str s
 | .nilp=>.nilp
 | .cptr c=>.cptr c
 | .nilf=>.nilf
 | .mp id=>if id<n then .mp id else .any
 | .nilm=>.nilm
 | .yld id=>if id<n then .yld id else .any
 | .gs id k=>if id<n then .gs id k else .any
def aZ(n:Nat):List V->List V
 | []=>[]
 | c::a=>c.cl n::aZ n a
end
def ay.cl(n:Nat):ay->ay
 | .cells a=>.cells (aZ n a)
 | .zone k=>.zone k
 | .jx a=>.jx (aZ n a)
 | .map b=>.map (b.map λp=>(p.1.cl n,p.2.cl n))
 | .dF s pos=>.dF s pos
 | .loop c d as bo st=>.loop (c.map λp=>(p.1,p.2.cl n)) d as bo st
 | .grow a e f=>.grow (aZ n a) e f
def ak(n:Nat)(H:ae):ae:=(H.take n).map (acA (ay.cl n))
inductive UOp where
 | neg|not|xor
 deriving DecidableEq
def jY(k:IntKind)(a b:Int):Int:=k.wrap (aa6 k.bits a &&& aa6 k.bits b).toNat
def vA(k:IntKind)(a b:Int):Int:=k.wrap (aa6 k.bits a ||| aa6 k.bits b).toNat
def vB(k:IntKind)(a b:Int):Int:=k.wrap (aa6 k.bits a ^^^ aa6 k.bits b).toNat
def Km(k:IntKind)(a b:Int):Int:=k.wrap (aa6 k.bits a &&& ~~~aa6 k.bits b).toNat
def jz(k:IntKind)(a b:Int):Int:=k.wrap (a*2^(min b.toNat k.bits))
def jZ(k:IntKind)(a b:Int):Int:=a.fdiv (2^(min b.toNat k.bits))
def kF(k:IntKind)(a b:Int):Int:=k.wrap (a.tdiv b)
def dS(k:IntKind)(a b:Int):Int:=k.wrap (a*b)
def aC(k:IntKind)(a b:Int):Int:=k.wrap (a+b)
def bO(k:IntKind)(a b:Int):Int:=k.wrap (a-b)
def gn(a b:Int):Int:=a.tmod b
def AK(k:IntKind)(a:Int):Int:=k.wrap (0-a)
def AL(k:IntKind)(a:Int):Int:=k.wrap (aa6 k.bits (if k.signed then -1 else k.max) ^^^ aa6 k.bits a).toNat
def fc(k:IntKind)(a:Int):Int:=k.wrap a
def V9(op:BinOp):V->V->Option V
 | .int k a,.int c b =>
  match op with
  | .shl=>if b<0 then none else some (.int k (jz k a b))
  | .shr=>if b<0 then none else some (.int k (jZ k a b))
  | .add=>if k=c then some (.int k (aC k a b)) else none
  | .sub=>if k=c then some (.int k (bO k a b)) else none
  | .mul=>if k=c then some (.int k (dS k a b)) else none
  | .quo=>if k=c then(if b=0 then none else some (.int k (kF k a b))) else none
  | .rem=>if k=c then(if b=0 then none else some (.int k (gn a b))) else none
  | .and=>if k=c then some (.int k (jY k a b)) else none
  | .or=>if k=c then some (.int k (vA k a b)) else none
  | .xor=>if k=c then some (.int k (vB k a b)) else none
  | .andNot=>if k=c then some (.int k (Km k a b)) else none
  | .eql=>if k=c then some (.bool (a==b)) else none
  | .neq=>if k=c then some (.bool (a !=b)) else none
  | .lss=>if k=c then some (.bool (decide (a<b))) else none
  | .leq=>if k=c then some (.bool (decide (a<=b))) else none
  | .gtr=>if k=c then some (.bool (decide (a>b))) else none
  | .geq=>if k=c then some (.bool (decide (a≥b))) else none
 | .str a,.str b =>
  match op with
  | .add=>if a.length+b.length<=9223372036854775807 then some (.str (a++b)) else none
  | .eql=>some (.bool (a==b))
  | .neq=>some (.bool !(a==b))
  | .lss=>some (.bool (Op.bytesLess a b))
  | .leq=>some (.bool (Op.bytesLess a b||a==b))
  | .gtr=>some (.bool !(Op.bytesLess a b||a==b))
  | .geq=>some (.bool !(Op.bytesLess a b))
  | _=>none
 | _,_=>none
def HB(op:UnOp):V->Option V
 | .int k n =>
  match op with
  | .neg=>some (.int k (AK k n))
  | .xor=>some (.int k (AL k n))
  | _=>none
 | .bool b =>
  match op with
  | .not=>some (.bool !b)
  | _=>none
 | _=>none
def ow(e:Env):List V->List (Nat×Nat×X)->Option (List V)
 | cs,[]=>some cs
 | cs,(a,b,x)::c =>
  match(x.ev e).cells? with
  | some ds=>if ds.length=b/\a+ds.length<=cs.length then ow e (cs.take a++ds++cs.drop (a+ds.length)) c else none
  | none=>none
def AM(e:Env)(sz:Nat):List (List V)->List (Nat×X)->Option (List (List V))
 | es,[]=>some es
 | es,(i,x)::a =>
  match(x.ev e).cells? with
  | some ds=>if i<es.length/\ds.length=sz/\ds.all V.pure=true then AM e sz (es.set i ds) a else none
  | none=>none
def intOf?:V->Option Int
 | .int _ n=>some n
 | _=>none
def tC(e:Env)(len:Nat)(lo hi mx:Option X):Option (Nat×Nat×Bool) :=
 let h?:Option Int:=match hi with|some x=>intOf? (x.ev e)|none=>some len
 let l?:Option Int:=match lo with|some x=>intOf? (x.ev e)|none=>some 0
 let m?:Option (Option Int):=match mx with|some x=>(intOf? (x.ev e)).map some|none=>some none
 match l?,h?,m? with
 | some l,some h,some m =>
  if 0<=l/\l<=h/\h<=len/\(∀v,m=some v->v=h)/\(mx.isSome->hi.isSome) then some (l.toNat,h.toNat,m.isSome) else none
 | _,_,_=>none
def V.eqc:V->V->Option Bool
 | .int k a,.int c b=>if k=c then some (a==b) else none
 | .bool a,.bool b=>some (a==b)
 | .str a,.str b=>some (a==b)
 | _,_=>none
def zk:List V->List V->Option Bool
 | [],[]=>some true
 | a::as,b::c=>match a.eqc b,zk as c with
  | some x,some y=>some (x&&y)
  | _,_=>none
 | _,_=>none
def qP:Kd->V->V->Option Bool
 | .int,.int k a,.int c b=>if k=c then some (a==b) else none
 | .bool,.bool a,.bool b=>some (a==b)
 | .str,.str a,.str b=>some (a==b)
 | _,_,_=>none
def cG:List Kd->List V->List V->Option Bool
 | [],[],[]=>some true
 | k::c,a::as,b::d=>match qP k a b,cG c as d with
  | some x,some y=>some (x&&y)
  | _,_=>none
 | _,_,_=>none
def ka(ks:Ky)(a b:V):Option Bool :=
 match ks,a,b with
 | .sc k,a,b=>qP k a b
 | .row ks,.agg x,.agg y=>cG ks x y
 | _,_,_=>none
def kc(ks:Ky)(k:V):List (V×V)->Nat->Option (Option (Nat×V))
 | [],_=>some none
 | p::a,i=>match ka ks k p.1 with
  | some true=>some (some (i,p.2))
  | some false=>kc ks k a (i+1)
  | none=>none
def MU(mx:Bool)(a b:Int):Int:=if mx then(if b>a then b else a) else(if b<a then b else a)
def sJ(e:Env)(mx:Bool)(k:IntKind):Int->List X->Option V
 | a,[]=>some (.int k a)
 | a,x::xs=>match x.ev e with
  | .int c b=>if k=c then sJ e mx k (MU mx a b) xs else none
  | _=>none
def CE:List (List V)->Option (List UInt8)
 | []=>some []
 | [.int .u8 n]::a=>match CE a with|some b=>some (ab8 n.toNat::b)|none=>none
 | _=>none
def rj(s:List UInt8):List (List V):=s.map λb=>[V.int .u8 b.toNat]
def V.elems?:V->Option (List (List V))
 | .vs a _=>some a
 | .str s=>some (rj s)
 | _=>none
def Ri(H:ae)(sz:Nat):V->Option (List V)
 | .vs b _=>if b.all (λf=>f.length==sz) then some b.flatten else none
 | .rs id a n _=>match H[id]? with
  | some (some (.cells c))=>if a+n*sz<=c.length then some ((c.drop a).take (n*sz)) else none
  | _=>none
 | _=>none
def lJ(H:ae)(i:Nat):Bool:=match H[i]? with|some none=>true|_=>false
def qa(sz:Nat):Nat->List V->List (List V)
 | 0,_=>[]
 | k+1,a=>a.take sz::qa sz k (a.drop sz)
def loadAt(H:ae)(sz:Nat)(b:Bool)(id off:Nat):Option (V×ae) :=
 match H[id]? with
 | some (some (.cells a))=>if off+sz<=a.length then(mk b ((a.drop off).take sz)).map (·,H) else none
 | _=>none
def V.ptrId?:V->Option Nat
 | .ptr id _=>some id
 | .rs id _ _ _=>some id
 | _=>none
def storeAt(H:ae)(sz id off:Nat)(v:V):Option (V×ae) :=
 match v.cells?,H[id]? with
 | some ds,some (some (.cells a))=>if ds.length=sz/\off+sz<=a.length then some (.undef,H.set id (some (.cells (a.take off++ds++a.drop (off+sz))))) else none
 | _,_=>none
def V.jA:V->V
 | .vs a _=>.vs a .no
 | v=>v
def V.FD:V->V
 | .vs a _=>.vs a .no
 | .agg b=>.agg (b.map V.jA)
 | v=>v
def aU(base:Nat)(e:Env)(H:ae):dW->Option (V×ae)
 | .mv x=>some (x.ev e,H)
 | .pick c a b=>match c.ev e with|.bool t=>some (if t then a.ev e else b.ev e,H)|_=>none
 | .box s x=>match(x.ev e).cells? with
  | some j=>if lJ H (base+s)=true then some (.ptr (base+s) 0,H.set (base+s) (some (.cells j))) else none
  | none=>none
 | .alloc s z=>if lJ H (base+s)=true then some (.ptr (base+s) 0,H.set (base+s) (some (.cells z))) else none
 | .build z C=>match ow e z C with|some j=>some (.agg j,H)|none=>none
 | .bslice n z C=>match AM e z.length (aan n z) C with|some u=>some (.vs u .full,H)|none=>none
 | .load g A G x=>match x.ev e with
  | .ptr id d=>if G=true/\base<=id then none else match H[id]? with
   | some (some (.cells j))=>if d+g<=j.length then(mk A ((j.drop d).take g)).map (·,H) else none
   | _=>none
  | .cptr j=>if g<=j.length then(mk A (j.take g)).map (·,H) else none
  | _=>none
 | .store g a x=>match a.ev e,(x.ev e).cells? with
  | .ptr id d,some ds=>match H[id]? with
   | some (some (.cells j))=>if ds.length=g/\d+g<=j.length then some (.undef,H.set id (some (.cells (j.take d++ds++j.drop (d+g))))) else none
   | _=>none
  | _,_=>none
 | .p9 d x=>match x.ev e with
  | .ptr id o=>some (.ptr id (o+d),H)
  | .cptr j=>some (.cptr (j.drop d),H)
  | _=>none
 | .Hv d g A x=>match x.ev e with
  | .agg j=>if d+g<=j.length then(mk A ((j.drop d).take g)).map (·,H) else none
  | _=>none
 | .re g x i=>match x.ev e,i.ev e with
  | .vs u _,.int _ n=>if 0<=n then match u[n.toNat]? with
    | some j=>if j.length=g then some (.cptr j,H) else none
    | none=>none
   else none
  | .rs id d k _,.int _ n=>if 0<=n/\n<k then some (.ptr id (d+n.toNat*g),H) else none
  | _,_=>none
 | .m9 w g x i=>match x.ev e,i.ev e with
  | .ptr id d,.int _ n=>if 0<=n/\n<w then some (.ptr id (d+n.toNat*g),H) else none
  | .cptr j,.int _ n=>if 0<=n/\n<w then some (.cptr (j.drop (n.toNat*g)),H) else none
  | _,_=>none
 | .idx w g A x i=>match x.ev e,i.ev e with
  | .agg j,.int _ n=>if 0<=n/\n<w/\n.toNat*g+g<=j.length then(mk A ((j.drop (n.toNat*g)).take g)).map (·,H) else none
  | _,_=>none
 | .bin I x y=>(V9 I (x.ev e) (y.ev e)).map (·,H)
 | .beq neg x y=>match x.ev e,y.ev e with
  | .bool a,.bool b=>some (.bool (if neg then !(a==b) else a==b),H)
  | _,_=>none
 | .un I x=>(HB I (x.ev e)).map (·,H)
 | .conv k x=>match x.ev e with|.int _ n=>some (.int k (fc k n),H)|_=>none
 | .mkfn f D=>some (.fn f (D.map (X.ev e)),H)
 | .ext i x=>match x.ev e with|.bc j=>(j[i]?).map (·,H)|_=>none
 | .len st x=>match st,x.ev e with
  | false,.vs u _=>some (.int .i64 u.length,H)
  | false,.rs _ _ n _=>some (.int .i64 n,H)
  | true,.str s=>some (.int .i64 s.length,H)
  | _,_=>none
 | .app s g bytes x y=>match x.ev e,(y.ev e).elems? with
  | .vs u tk,some E =>
   if E=[] then some (.vs u tk,H) else
   if(u.length+E.length)*bytes<=140737488355328/\(∀f∈E,f.length=g)/\(∀f∈u,f.length=g) then
    match tk with
    | .own q=>match H[q]? with
     | some (some (.zone n))=>if n=u.length then some (.vs (u++E) (.own q),H.set q (some (.zone (n+E.length)))) else none
     | _=>none
    | .full=>if lJ H (base+s)=true then some (.vs (u++E) (.own (base+s)),H.set (base+s) (some (.zone (u.length+E.length)))) else none
    | .no=>none
   else none
  | _,_=>none
 | .slc g x lo hi F=>match x.ev e with
  | .vs u tk=>match tC e u.length lo hi F with
   | some (l,h,m)=>if(∀f∈u,f.length=g) then some (.vs ((u.drop l).take (h-l)) (if m=true\/tk=.full/\h=u.length then .full else .no),H) else none
   | none=>none
  | .rs id d n K=>match tC e n lo hi F with
   | some (l,h,m)=>if l=0\/l<n/\m=false then some (.rs id (d+l*g) (h-l) K,H) else none
   | none=>none
  | _=>none
 | .rf x=>match x.ev e with
  | .ptr id o=>some (.ptr id o,H)
  | .cptr j=>some (.cptr j,H)
  | .fn f D=>some (.fn f D,H)
  | _=>none
 | .qt s bytes z n=>match n.ev e with
  | .int _ k=>if lJ H (base+s)=true/\0<=k/\k.toNat*bytes<=140737488355328 then some (.rs (base+s) 0 k.toNat z.length,H.set (base+s) (some (.cells (aan k.toNat z).flatten))) else none
  | _=>none
 | .Hw B neg x y=>match x.ev e,y.ev e with
  | .agg j,.agg ds=>match cG B j ds with
   | some b=>some (.bool (if neg then !b else b),H)
   | none=>none
  | _,_=>none
 | .p_ k neg x=>match k,x.ev e with
  | 0,.fn _ _=>some (.bool neg,H)
  | 0,.nilf=>some (.bool !neg,H)
  | 1,.ptr _ _=>some (.bool neg,H)
  | 1,.cptr _=>some (.bool neg,H)
  | 1,.nilp=>some (.bool !neg,H)
  | 2,.mp _=>some (.bool neg,H)
  | 2,.nilm=>some (.bool !neg,H)
  | _,_=>none
 | .mm F xs=>match xs with
  | x::xs=>match x.ev e with
   | .int k a=>(sJ e F k a xs).map (·,H)
   | _=>none
  | []=>none
 | .xe x i=>match x.ev e,i.ev e with
  | .str s,.int _ n=>if 0<=n then match s[n.toNat]? with
    | some b=>some (.int .u8 b.toNat,H)
    | none=>none
   else none
  | _,_=>none
 | .sslc x lo hi=>match x.ev e with
  | .str s=>match tC e s.length lo hi none with
   | some (l,h,_)=>some (.str ((s.drop l).take (h-l)),H)
   | none=>none
  | _=>none
 | .Hx x=>match x.ev e with
  | .vs u _=>match CE u with
   | some s=>some (.str s,H)
   | none=>none
  | _=>none
 | .Hy x=>match x.ev e with
  | .int _ n=>some (.str (Utf8.encode n).data.toList,H)
  | _=>none
 | .ri s=>if lJ H (base+s)=true then some (.mp (base+s),H.set (base+s) (some (.map []))) else none
 | .ur B J z x k=>if B.isRow=true/\ka B (k.ev e) (k.ev e)=none then none else match x.ev e with
  | .mp id=>match H[id]? with
   | some (some (.map u))=>match kc B (k.ev e) u 0 with
    | some (some (_,v))=>some (if J then .bc [v,.bool true] else v,H)
    | some none=>some (if J then .bc [z,.bool false] else z,H)
    | none=>none
   | _=>none
  | .nilm=>some (if J then .bc [z,.bool false] else z,H)
  | _=>none
 | .mput B x k v=>match x.ev e with
  | .mp id=>if ka B (k.ev e) (k.ev e)=none\/(v.ev e).cells?=none then none else match H[id]? with
   | some (some (.map u))=>match kc B (k.ev e) u 0 with
    | some (some (i,_))=>some (.undef,H.set id (some (.map (u.set i (k.ev e,v.ev e)))))
    | some none=>some (.undef,H.set id (some (.map (u++[(k.ev e,v.ev e)]))))
    | none=>none
   | _=>none
  | _=>none
 | .vw B z x k=>match x.ev e with
  | .mp id=>if ka B (k.ev e) (k.ev e)=none then none else match H[id]? with
   | some (some (.map u))=>match kc B (k.ev e) u 0 with
    | some (some (i,v))=>some (.bc [v,.int .i64 i],H.set id (some (.map (u.set i (k.ev e,v)))))
    | some none=>some (.bc [z,.int .i64 u.length],H.set id (some (.map (u++[(k.ev e,z)]))))
    | none=>none
   | _=>none
  | _=>none
 | .FA x i v=>match x.ev e,i.ev e with
  | .mp id,.int _ n=>match H[id]? with
   | some (some (.map u))=>if 0<=n then match u[n.toNat]? with
     | some p=>some (.undef,H.set id (some (.map (u.set n.toNat (p.1,v.ev e)))))
     | none=>none
    else none
   | _=>none
  | _,_=>none
 | .FB s x=>match x.ev e with
  | .str t=>if lJ H (base+s)=true then some (.ptr (base+s) 0,H.set (base+s) (some (.dF t 0))) else none
  | _=>none
 | .yk x=>match x.ev e with
  | .ptr id 0=>match H[id]? with
   | some (some (.dF t pos)) =>
    if pos<t.length then some (.bc [.bool true,.int .i64 pos,.int .i32 (Utf8.decode ⟨t.toArray⟩ pos).1],H.set id (some (.dF t (pos+(Utf8.decode ⟨t.toArray⟩ pos).2))))
    else some (.bc [.bool false],H)
   | _=>none
  | _=>none
 | .xf w g x lo hi=>match tC e w lo hi none with
  | some (l,h,_)=>match x.ev e with
   | .ptr id d=>if l<w then some (.rs id (d+l*g) (h-l) g,H) else none
   | _=>none
  | none=>none
 | .FC g x y=>match x.ev e with
  | .rs id d n _=>match H[id]?,Ri H g (y.ev e) with
   | some (some (.cells j)),some ds =>
    if d+n*g<=j.length/\0<g then
     some (.int .i64 (min (ds.length/g) n:Nat),H.set id (some (.cells (j.take d++ds.take (min (ds.length/g) n*g)++j.drop (d+min (ds.length/g) n*g)))))
    else none
   | _,_=>none
  | _=>none
 | .loadR g A r x=>match x.ev e with
  | .ptr id d=>if(e r).ptrId?=some id then loadAt H g A id d else none
  | _=>none
 | .storeA g rs a x=>match a.ev e with
  | .ptr id d=>if rs.all (λr=>(e r).ptrId? !=some id) then storeAt H g id d (x.ev e) else none
  | _=>none
 | .bsliceR s n z C=>if lJ H (base+s)=true then match ow e (aan n z).flatten (C.map λq=>(q.1*z.length,z.length,q.2)) with
   | some j=>some (.rs (base+s) 0 n z.length,H.set (base+s) (some (.cells j)))
   | none=>none
  else none
 | .tv g A x=>match x.ev e with
  | .cptr j=>if g<=j.length then(mk A (j.take g)).map (·,H) else none
  | _=>none
 | .jX s g a x=>match a.ev e with
  | .ptr id d=>if id=base+s then storeAt H g id d (x.ev e) else none
  | _=>none
 | .jO s n z C=>match AM e z.length (aan n z) C with
  | some u=>if lJ H (base+s)=true then some (.gs (base+s) n,H.set (base+s) (some (.grow u.flatten z.length true))) else none
  | none=>none
 | .mark x=>match x.ev e with
  | .gs id n=>match H[id]? with
   | some (some (.grow j g true))=>if g=1/\j.length=n/\j.all V.pure=true then some (.vs (qa 1 n j) .full,H.set id (some (.zone 1))) else none
   | _=>none
  | _=>none
 | .loadA g A rs x=>match x.ev e with
  | .ptr id d=>if rs.all (λr=>(e r).ptrId? !=some id) then loadAt H g A id d else none
  | _=>none
 | .storeT g r a x=>match a.ev e with
  | .ptr id d=>if(e r).ptrId?=some id then storeAt H g id d (x.ev e) else none
  | _=>none
 | .pcall _ _|.scall _ _|.kcall _ _ _|.vcall _ _ _|.scallA _ _ _|.scallE _ _=>none
def zp(H:ae):V->V
 | .rs id a n b=>match H[id]? with
  | some (some (.cells c))=>if a+n*b<=c.length/\c.all V.pure=true then .vs (qa b n (c.drop a)) .no else .rs id a n b
  | _=>.rs id a n b
 | v=>v
def u9(H:ae):V->V
 | .bc vs=>.bc (vs.map (zp H))
 | v=>zp H v
def V.nf:V->V
 | .bc a=>.bc (a.map V.FD)
 | v=>v.FD
def V.out(v:V):V:=(v.cl 0).nf
def zq(l:List V):List V:=l.map V.out
structure aH where
 nt:Nat
 body:bg
 res:List jw
def pb(l:List Nat)(e:Env):Env:=λi=>if i∈l then e i else .undef
def Env.cl(n:Nat)(e:Env):Env:=λi=>(e i).cl n
def wanted(e:Env)(o:aF):Option Bool :=
 match o.guard with
 | none=>some true
 | some (g,a)=>match e g with|.bool b=>some (b==a)|.mq=>some false|_=>none
def DH(e:Env)(H:ae)(t:Nat):Option Nat->Option (Env×ae)
 | none=>match e t with
  | .vs a .full=>some (e.put (some t) (.vs a (.own H.length)),H++[some (.zone a.length)])
  | .vs a (.own q)=>some (e.put (some t) (.vs a (.own q)),H)
  | _=>none
 | some b=>match e t with
  | .ptr id o=>match H[id]? with
   | some (some (.cells c))=>match c[o+b]? with
    | some (.vs a .full)=>some (e,H.set id (some (.cells (c.set (o+b) (.vs a (.own H.length)))))++[some (.zone a.length)])
    | some (.vs _ (.own _))=>some (e,H)
    | _=>none
   | _=>none
  | _=>none
def na(H:ae):List V->Option (List V×ae)
 | []=>some ([],H)
 | .rs id a n d::e=>match H[id]? with
  | some (some (.cells ds))=>if a+n*d<=ds.length/\ds.all V.pure=true then
    match na (H.set id (some (.jx ds))) e with
    | some (b,H')=>some (.vs (qa d n (ds.drop a)) .no::b,H')
    | none=>none
   else none
  | some (some (.jx ds))=>if a+n*d<=ds.length then
    match na H e with
    | some (b,H')=>some (.vs (qa d n (ds.drop a)) .no::b,H')
    | none=>none
   else none
  | _=>none
 | c::e=>match na H e with
  | some (b,H')=>some (c::b,H')
  | none=>none
def FE(e:Env)(H:ae)(t:Nat):Option (Env×ae) :=
 match e t with
 | .agg a=>match na H a with
  | some (b,H')=>some (e.put (some t) (.agg b),H')
  | none=>none
 | .ptr id _=>match H[id]? with
  | some (some (.cells a))=>match na H a with
   | some (b,H')=>match H'[id]? with
    | some (some (.cells _))=>some (e,H'.set id (some (.cells b)))
    | _=>none
   | none=>none
  | _=>none
 | v=>match na H [v] with
  | some ([c],H')=>some (e.put (some t) c,H')
  | _=>none
def Rj(e:Env)(H:ae):jw->Option V
 | .tmp t=>some (e t)
 | .cell t b d=>match e t with
  | .ptr id a=>match H[id]? with
   | some (some (.cells c))=>if a+b<=c.length then mk d ((c.drop a).take b) else none
   | _=>none
  | _=>none
def vC(e:Env)(H:ae):List jw->Option (List V)
 | []=>some []
 | r::rs=>match Rj e H r,vC e H rs with
  | some v,some vs=>some (v::vs)
  | _,_=>none
def vD:List V->V
 | [v]=>v
 | vs=>.bc vs
def MV(args:List V):Env:=λi=>args.getD i .undef
inductive J where
 | F (f:Nat) (args:List V) (H:ae) (r:V) (H':ae)
 | S (base:Nat) (o:aF) (e:Env) (H:ae) (e':Env) (H':ae)
 | O (base:Nat) (os:List aF) (e:Env) (H:ae) (e':Env) (H':ae)
 | C (c:bg) (e:Env) (H:ae) (x:Ex) (e':Env) (H':ae)
 | L (n:Nat) (l:List Nat) (c:bg) (e:Env) (H:ae) (x:Ex) (e':Env) (H':ae)
def Kn(e:Env)(rs:List Nat)(H H1:ae):Prop:=∀r∈rs,∀id,(e r).ptrId?=some id->H1[id]?=H[id]?
def MW(base:Nat)(args:List V)(H H':ae):Prop:=(∀v∈args,v.cl base=v)/\H.map (acA (ay.cl base))=H/\H'.drop base=H.drop base
def zr:Nat->List V->ae->V->ae->Prop
 | 0,[.mp id,.int .u32 n],H,r,H'=>H'=H/\∃a:List (List UInt8×Int),H[id]?=some (some (.map (a.map λp=>(V.str p.1,V.int .u32 p.2))))/\(a.map (·.2)).Nodup/\r=.str (((a.find? λp=>p.2==n).map (·.1)).getD [])
 | 0,[.nilm,.int .u32 _],H,r,H'=>H'=H/\r=.str []
 | _,_,_,_,_=>False
inductive bE (G:Nat->Option aH):J->Prop
 | nat {f fn k args H r H'}:G f=some fn->fn.body=.nat k->zr k args H r H'->bE G (.F f args H r H')
 | fn {f fn args H x e' H' vs}:G f=some fn->args.length<=fn.nt->bE G (.C fn.body (MV args) H x e' H')->(x=.nx\/x=.ret)->vC e' H' fn.res=some vs ->
   bE G (.F f args H (vD vs) H')
 | ev {base o e H v H1}:wanted e o=some true->aU base e H o.op=some (v,H1)->bE G (.S base o e H (e.put o.dst v) H1)
 | skip {base o e H}:wanted e o=some false->bE G (.S base o e H (e.put o.dst .mq) H)
 | pcall {base o e H f xs r H1}:wanted e o=some true->o.op=.pcall f xs->bE G (.F f (zq (xs.map (X.ev e))) [] r H1) ->
   bE G (.S base o e H (e.put o.dst (u9 H1 r).out) H)
 | scall {base o e H f xs r H1}:wanted e o=some true->o.op=.scall f xs->bE G (.F f (xs.map (X.ev e)) H r H1) ->
   bE G (.S base o e H (e.put o.dst (r.cl H.length)) (ak H.length H1))
 | scallA {base o e H rs f xs r H1}:wanted e o=some true->o.op=.scallA rs f xs->bE G (.F f (xs.map (X.ev e)) H r H1)->Kn e rs H (ak H.length H1) ->
   bE G (.S base o e H (e.put o.dst (r.cl H.length)) (ak H.length H1))
 | scallE {base o e H f xs r H1}:wanted e o=some true->o.op=.scallE f xs->bE G (.F f (xs.map (X.ev e)) H r H1)->MW base (xs.map (X.ev e)) H (ak H.length H1) ->
   bE G (.S base o e H (e.put o.dst (r.cl H.length)) (ak H.length H1))
 | kcall {base o e H ro f xs r H1}:wanted e o=some true->o.op=.kcall ro f xs->bE G (.F f (xs.map (X.ev e)) H r H1)->(ro=true->base<=H.length/\H1.take H.length=H) ->
   bE G (.S base o e H (e.put o.dst r) H1)
 | vcall {base o e H ro fx xs f cap r H1}:wanted e o=some true->o.op=.vcall ro fx xs->fx.ev e=.fn f cap->bE G (.F f (xs.map (X.ev e)++cap) H r H1) ->
   (ro=true->ak H.length H1=H)->bE G (.S base o e H (e.put o.dst (r.cl H.length)) (ak H.length H1))
 | ke {base o e H fx xs id e0 ps as bo e1 H1 f0 rm rn rq x e2 H2 g0 rr ry rz}:wanted e o=some true->o.op=.vcall false fx xs->fx.ev e=.yld id->H[id]?=some (some (.loop e0 ps as bo .ready))->xs.length=ps.length ->
   bE G (.C as (sI ps (xs.map (X.ev e)) (il e0)) H .nx e1 H1)->H1[id]?=some (some (.loop f0 rm rn rq .ready))->bE G (.C bo e1 (H1.set id (some (.loop f0 rm rn rq .busy))) x e2 H2) ->
   H2[id]?=some (some (.loop g0 rr ry rz .busy)) ->
   bE G (.S base o e H (e.put o.dst (.bool (decide (x=.nx)))) (ak H.length (H2.set id (some (.loop g0 rr ry rz (if x=.nx then .ready else .done x))))))
 | nil {base e H}:bE G (.O base [] e H e H)
 | cons {base o os e H e1 H1 e2 H2}:bE G (.S base o e H e1 H1)->bE G (.O base os e1 H1 e2 H2)->bE G (.O base (o::os) e H e2 H2)
 | AN {e H}:bE G (.C .skip e H .nx e H)
 | region {m ops e H e' H'}:bE G (.O H.length ops e (H++aan m none) e' H')->bE G (.C (.region m ops) e H .nx e' H')
 | DI {a b e H e1 H1 x e2 H2}:bE G (.C a e H .nx e1 H1)->bE G (.C b e1 H1 x e2 H2)->bE G (.C (.seq a b) e H x e2 H2)
 | AO {a b e H x e1 H1}:bE G (.C a e H x e1 H1)->x≠.nx->bE G (.C (.seq a b) e H x e1 H1)
 | cond {c a b e H t x e1 H1}:c.ev e=.bool t->bE G (.C (if t then a else b) e H x e1 H1)->bE G (.C (.cond c a b) e H x e1 H1)
 | block {id c e H x e1 H1}:bE G (.C c e H x e1 H1)->bE G (.C (.block id c) e H (if x=.exit id then .nx else x) e1 H1)
 | loop {l c e H x e1 H1}:bE G (.L H.length l c e H x e1 H1)->bE G (.C (.loop l c) e H x e1 H1)
 | round {n l c e H e1 H1 x e2 H2}:bE G (.C c ((pb l e).cl n) (ak n H) .nx e1 H1)->bE G (.L n l c e1 H1 x e2 H2)->bE G (.L n l c e H x e2 H2)
 | last {n l c e H x e1 H1}:bE G (.C c ((pb l e).cl n) (ak n H) x e1 H1)->x≠.nx->bE G (.L n l c e H x e1 H1)
 | AP {n k l c e H e1 H1 x e2 H2}:n<=k->k<=H.length->bE G (.C c ((pb l e).cl k) (ak k H) .nx e1 H1)->bE G (.L n l c e1 H1 x e2 H2)->bE G (.L n l c e H x e2 H2)
 | AQ {n k l c e H x e1 H1}:n<=k->k<=H.length->bE G (.C c ((pb l e).cl k) (ak k H) x e1 H1)->x≠.nx->bE G (.L n l c e H x e1 H1)
 | exit {id e H}:bE G (.C (.exit id) e H (.exit id) e H)
 | ret {e H}:bE G (.C .ret e H .ret e H)
 | keep {l e H}:bE G (.C (.keep l) e H .nx (pb l e) H)
 | give {t off e H e1 H1}:DH e H t off=some (e1,H1)->bE G (.C (.give t off) e H .nx e1 H1)
 | iw {g l ps as bo e H f cap r H1 e0 wK zs zt st x}:g.ev e=.fn f cap->bE G (.F f (.yld H.length::cap) (H++[some (.loop (look e l) ps as bo .ready)]) r H1) ->
   H1[H.length]?=some (some (.loop e0 wK zs zt st))->(st=.ready/\x=.nx\/st=.done x/\x≠.nx)->bE G (.C (.iw g l ps as bo) e H x e (ak H.length H1))
 | freeze {t e H e1 H1}:FE e H t=some (e1,H1)->bE G (.C (.freeze t) e H .nx e1 H1)
open Go Go.RowKit
variable {M M':Mm} {H H':ae} {w w':World}
def getElem?_set_ne{α:Type}{l:List α}{i j:Nat}{a:α}(h:j≠i):(l.set i a)[j]?=l[j]?:=by rw[abf];rw[if_neg (λe=>h e.symm)]
def u_{i:Nat}:lJ H i=true↔H[i]?=some none:=by
 unfold lJ
 split<;>simp_all
def aM.step(h:eH M H w M' H' w')(i:aI M w H)(hi:e_ M M' H.length){id:Nat}{q:ay}(k:H[id]?=some (some q))
  (l:∀b,aV M H id=some b->w'.heap[b]?=w.heap[b]?/\M'.gS b=M.gS b) (v:M'.z id=M.z id):aM M' w' id q:=by
 have x:M.al id=true:=(i.si id).2 ⟨q,k⟩;have A:=i.lt x;obtain⟨_,m,_⟩:=hi id A x;have g:=i.rel id q k
 cases q with
 | cells y =>
  simp only[aM] at g |-;obtain⟨a,b,xs,e,c,d⟩:=g;have:=l (M.j id) (by simp[aV,k]);rw[m]
  exact⟨a,this.2.trans b,xs,e,this.1.trans c,ai.step h i hi d⟩
 | zone n =>
  simp only[aM] at g |-;rw[v];refine⟨g.1,?_⟩;have o:=g.2
  cases u:(M.z id).cI with
  | none=>simp only[u] at o |-;exact o
  | some b =>
   simp only[u] at o |-;have:=l b (by simp[aV,k,u]);rw[this.1,this.2]
   exact o
 | jx y =>
  simp only[aM] at g |-;obtain⟨a,b,xs,e,c,d⟩:=g;have:=l (M.j id) (by simp[aV,k]);rw[m]
  exact⟨a,this.2.trans b,xs,e,this.1.trans c,ai.step h i hi d⟩
 | map L =>
  simp only[aM] at g |-;obtain⟨b,ents,c,d,d',f⟩:=g;have:=l (M.j id) (by simp[aV,k]);rw[m]
  exact⟨this.2.trans b,ents,this.1.trans c,ai.step h i hi d,ai.step h i hi d',f⟩
 | dF t pos =>
  simp only[aM] at g |-;have:=l (M.j id) (by simp[aV,k]);rw[m]
  exact⟨this.2.trans g.1,this.1.trans g.2⟩
 | grow y N O =>
  simp only[aM] at g |-;obtain⟨a,b,B,C,xs,e,c,s,d,D⟩:=g;have:=l (M.j id) (by simp[aV,k]);rw[m,v]
  exact⟨a,this.2.trans b,B,C,xs,e,this.1.trans c,s,ai.step h i hi d,D⟩
 | loop P Q as bo st =>
  simp only[aM] at g |-;obtain⟨a,r,E,o,F,G,I,J⟩:=g;have:=l (M.j id) (by simp[aV,k]);rw[m,h.fm];exact⟨this.2.trans a,r,this.1.trans E,o,F,G,I,λp K=>ar.step h i hi (J p K)⟩
structure iR (w w':World):Prop where
 os:w'.os=w.os
 tape:w'.tape=w.tape
 output:w'.output=w.output
 size:w.heap.size<=w'.heap.size
 block:∀b,b<w.heap.size->w'.heap[b]?=w.heap[b]?
def iR.refl(w:World):iR w w:=⟨rfl,rfl,rfl,aah _,λ_ _=>rfl⟩
def iR.drew(w:World):iR w w.drew:=⟨rfl,rfl,rfl,aah _,λ_ _=>rfl⟩
def iR.alloc(w:World)(o:Obj):iR w (w.alloc o):=⟨rfl,rfl,rfl,ir,λb a=>Below.heap_alloc w o b a⟩
def iR.trans{a b c:World}(h:iR a b)(k:iR b c):iR a c :=
 ⟨k.os.trans h.os,k.tape.trans h.tape,k.output.trans h.output,abm h.size k.size,λi hi=>(k.block i (aaZ hi h.size)).trans (h.block i hi)⟩
def iR.cell(h:iR w w'){b o:Nat}(a:b<w.heap.size):w'.cell? ⟨b,o,none⟩=w.cell? ⟨b,o,none⟩ :=
 World.cell?_of_block (w:=w) (h.block b a)
def aI.gr(h:aI M w H){b:Nat}(g:u7 M H b):b<w.heap.size:=by
 obtain⟨id,c⟩:=g;unfold aV at c;split at c
 .rename_i n d;have:=h.rel id _ d;simp only[aM,c] at this;obtain⟨_,_,_,_,_,xs,e,a,_⟩:=this;exact(aav.1 a).1
 .rename_i i j d;have:=h.rel id _ d;simp only[aab.injEq] at c;subst c
  cases i with
  | zone n=>exact absurd rfl (j n)
  | cells f=>simp only[aM] at this;obtain⟨_,_,xs,e,a,_⟩:=this;exact(aav.1 a).1
  | jx f=>simp only[aM] at this;obtain⟨_,_,xs,e,a,_⟩:=this;exact(aav.1 a).1
  | map k=>simp only[aM] at this;obtain⟨_,ents,a,_⟩:=this;exact(aav.1 a).1
  | dF t pos=>simp only[aM] at this;exact(aav.1 this.2).1
  | loop l m as bo st=>simp only[aM] at this;obtain⟨_,r,a,_⟩:=this;exact(aav.1 a).1
  | grow f o p=>simp only[aM] at this;obtain⟨_,_,_,_,xs,e,a,_⟩:=this;exact(aav.1 a).1
 .cases c
structure Same (M M':Mm) (n:Nat):Prop where
 al:M'.al=M.al
 j:M'.j=M.j
 z:M'.z=M.z
 fm:M'.fm=M.fm
 gS:∀b,b<n->M'.gS b=M.gS b
def Same.refl(M:Mm)(n:Nat):Same M M n:=⟨rfl,rfl,rfl,rfl,λ_ _=>rfl⟩
def Same.bl{n:Nat}(s:Same M M' n)(id:Nat):aV M' H id=aV M H id:=by simp only[aV,s.j,s.z]
def MX(d:aI M w H)(g:iR w w')(s:Same M M' w.heap.size):eH M H w M' H w'/\e_ M M' H.length/\aI M' w' H:=by
 have c:eH M H w M' H w':={
  os:=g.os
  tape:=g.tape
  output:=g.output
  size:=g.size
  same:=λb a _=>g.block b a
  cells:=λb l o a _ _=>g.cell a
  oj:=λb a e=>(s.gS b a).trans e
  jy:=λb l a e=>⟨l,(s.gS b a).trans e,aah _⟩
  limo:=λb a _=>s.gS b a
  own:=λb _ k=>by obtain⟨id,bM⟩:=k;exact⟨id,by rw[<-s.bl];exact bM⟩
  fm:=s.fm }
 have bM:e_ M M' H.length:=λid _ m=>⟨by rw[s.al];exact m,by rw[s.j],by rw[s.z];exact vz.refl _⟩;refine⟨c,bM,⟨λid=>by rw[s.al];exact d.si id,λid q a=>?_,λid n b f h=>?_,d.pa.step c d bM⟩⟩
 .refine aM.step c d bM a (λb p=>?_) (by rw[s.z]);have i:=d.gr ⟨id,p⟩;exact⟨g.block b i,s.gS b i⟩
 .rw[s.bl] at f h;exact d.inj id n b f h
def Mm.jy(M:Mm)(b:Nat)(l:Option Nat):Mm:={ M with gS:=λk=>if k=b then l else M.gS k }
def Same.jy(M:Mm)(n:Nat)(l:Option Nat):Same M (M.jy n l) n:=⟨rfl,rfl,rfl,rfl,λb a=>by simp only[Mm.jy];rw[if_neg an]⟩
def Mm.i_(M:Mm)(id b:Nat):Mm :=
 { M with al:=λi=>decide (i=id)||M.al i,j:=λi=>if i=id then b else M.j i,gS:=λk=>if k=b then some 0 else M.gS k }
def Rk(b:aI M w H){id:Nat}(c:lJ H id=true):M.al id=false:=by
 cases h:M.al id with
 | false=>rfl
 | true =>
  obtain⟨d,a⟩:=(b.si id).1 h;rw[u_.1 c] at a;cases a
def HD{id:Nat}(a:lJ H id=true):id<H.length:=(aae.1 (u_.1 a)).1
def ay.pG:ay->Bool
 | .zone _=>true
 | _=>false
def MY(c:aI M w H){id:Nat}(s:lJ H id=true){blk0:ay}{ob:Obj}(n:blk0.pG=false)
  (t:eH M H w (M.i_ id w.heap.size) (H.set id (some blk0)) (w.alloc ob)->e_ M (M.i_ id w.heap.size) H.length->aM (M.i_ id w.heap.size) (w.alloc ob) id blk0) :
  eH M H w (M.i_ id w.heap.size) (H.set id (some blk0)) (w.alloc ob)/\e_ M (M.i_ id w.heap.size) H.length /\
  aI (M.i_ id w.heap.size) (w.alloc ob) (H.set id (some blk0)):=by
 have u:=Rk c s;have p:=HD s;have g:=iR.alloc w ob
 have f:∀i,i≠id->aV (M.i_ id w.heap.size) (H.set id (some blk0)) i=aV M H i:=by
  intro i hi;unfold aV;rw[getElem?_set_ne hi]
  split<;>simp_all [Mm.i_]
 have q:aV (M.i_ id w.heap.size) (H.set id (some blk0)) id=some w.heap.size:=by
  unfold aV;rw[aaq p]
  cases blk0<;>first|(simp[ay.pG] at n;done)|simp[Mm.i_]
 have d:eH M H w (M.i_ id w.heap.size) (H.set id (some blk0)) (w.alloc ob):={
  os:=g.os
  tape:=g.tape
  output:=g.output
  size:=g.size
  same:=λb a _=>g.block b a
  cells:=λb l o a _ _=>g.cell a
  oj:=λb a r=>by simp only[Mm.i_];rw[if_neg an];exact r
  jy:=λb l a r=>⟨l,by simp only[Mm.i_];rw[if_neg an];exact r,aah _⟩
  limo:=λb a _=>by simp only[Mm.i_];rw[if_neg an]
  own:=λb a v=>by
   obtain⟨i,hi⟩:=v
   by_cases e:i=id
   .subst e;rw[q] at hi;cases hi;omega
   .rw[f i e] at hi;exact⟨i,hi⟩
  fm:=rfl }
 have m:e_ M (M.i_ id w.heap.size) H.length:=λi _ hi=>by
  have:i≠id:=λe=>by subst e;rw[u] at hi;cases hi
  simp only[Mm.i_,hi,acG,true_and,if_neg this];exact vz.refl _
 refine⟨d,m,⟨λi=>?_,λi y a=>?_,λi h b j k=>?_,c.pa.step d c m⟩⟩
 .by_cases e:i=id
  .subst e;simp only[Mm.i_,decide_true,aa7,true_iff];exact⟨_,aaq p⟩
  .simp only[Mm.i_,e,decide_false,acD];rw[getElem?_set_ne e];exact c.si i
 .by_cases e:i=id
  .subst e;rw[aaq p] at a;simp only[aab.injEq] at a;subst a;exact t d m
  .rw[getElem?_set_ne e] at a;refine aM.step d c m a (λb f=>?_) rfl;have x:=c.gr ⟨i,f⟩;refine⟨g.block b x,?_⟩;simp only[Mm.i_];rw[if_neg an]
 .by_cases e:i=id
  .by_cases e':h=id
   .omega
   .subst e;rw[q] at j;rw[f h e'] at k;cases j;have:=c.gr ⟨h,k⟩;omega
  .by_cases e':h=id
   .subst e';rw[q] at k;rw[f i e] at j;cases k;have:=c.gr ⟨i,j⟩;omega
   .rw[f i e] at j;rw[f h e'] at k;exact c.inj i h b j k
def zu7{cs:List V}{xs:List Value}(h:ai M w cs xs):xs.take cs.length=xs:=by rw[<-ik h];exact List.take_length
def Rl(b:aI M w H){id:Nat}(e:lJ H id=true){cs:List V}{xs:Array Value}{t:TypeId}(d:ai M w cs xs.toList)(f:∀c∈cs,c.fC=true) :
  eH M H w (M.i_ id w.heap.size) (H.set id (some (.cells cs))) (w.alloc (.cells xs t))/\e_ M (M.i_ id w.heap.size) H.length /\
  aI (M.i_ id w.heap.size) (w.alloc (.cells xs t)) (H.set id (some (.cells cs))):=by
 refine MY b e rfl λa g=>?_;simp only[aM];refine⟨f,by simp[Mm.i_],xs,t,?_,ai.step a b g (by rw[zu7 d];exact d)⟩;simp only[Mm.i_,if_true];exact heap_alloc_new w _
def Mm.cK(M:Mm)(b l:Nat):Mm:={ M with gS:=λk=>if k=b then some l else M.gS k }
def Rm(d:aI M w H){id:Nat}{blk0 blk1:ay}(n:H[id]?=some (some blk0))(v:blk0.pG=false)(g:blk1.pG=false)(p:M.gS (M.j id)=some 0)(l:Nat)
  (os:w'.os=w.os) (tape:w'.tape=w.tape) (output:w'.output=w.output) (size:w'.heap.size=w.heap.size) (q:∀b,b≠M.j id->w'.heap[b]?=w.heap[b]?)
  (x:eH M H w (M.cK (M.j id) l) (H.set id (some blk1)) w'->e_ M (M.cK (M.j id) l) H.length->aM (M.cK (M.j id) l) w' id blk1) :
  eH M H w (M.cK (M.j id) l) (H.set id (some blk1)) w'/\e_ M (M.cK (M.j id) l) H.length/\aI (M.cK (M.j id) l) w' (H.set id (some blk1)):=by
 have r:id<H.length:=(aae.1 n).1;have y:M.al id=true:=(d.si id).2 ⟨_,n⟩
 have h:aV M H id=some (M.j id):=by
  unfold aV;rw[n]
  cases blk0<;>first|(simp[ay.pG] at v;done)|rfl
 have s:∀i,aV (M.cK (M.j id) l) (H.set id (some blk1)) i=aV M H i:=by
  intro i
  by_cases e:i=id
  .subst e;rw[h];unfold aV;rw[aaq r]
   cases blk1<;>first|(simp[ay.pG] at g;done)|rfl
  .unfold aV;rw[getElem?_set_ne e];rfl
 have c:eH M H w (M.cK (M.j id) l) (H.set id (some blk1)) w':={
  os:=os
  tape:=tape
  output:=output
  size:=by rw[size];exact aah _
  same:=λb _ f=>q b (λe=>f ⟨id,by rw[h,e]⟩)
  cells:=λb l o _ a f=>by
   by_cases e:b=M.j id
   .subst e;rw[p] at a;cases a;omega
   .exact World.cell?_of_block (w:=w) (q b e)
  oj:=λb _ a=>by
   simp only[Mm.cK]
   rw[if_neg];· exact a
   intro e;subst e;rw[p] at a;cases a
  jy:=λb z _ a=>by
   simp only[Mm.cK]
   by_cases e:b=M.j id
   .subst e;rw[p] at a;cases a;exact⟨l,ir,ab9 _⟩
   .exact⟨z,by rw[if_neg e];exact a,aah _⟩
  limo:=λb _ f=>by
   simp only[Mm.cK];rw[if_neg];intro e;exact f ⟨id,by rw[h,e]⟩
  own:=λb _ f=>by obtain⟨i,hi⟩:=f;exact⟨i,by rw[<-s];exact hi⟩
  fm:=rfl }
 have k:e_ M (M.cK (M.j id) l) H.length:=λi _ hi=>⟨hi,rfl,vz.refl _⟩;refine⟨c,k,⟨λi=>?_,λi C hi=>?_,λi A b g t=>?_,d.pa.step c d k⟩⟩
 .by_cases e:i=id
  .subst e;simp only[Mm.cK,y,true_iff];exact⟨_,aaq r⟩
  .rw[getElem?_set_ne e];exact d.si i
 .by_cases e:i=id
  .subst e;rw[aaq r] at hi;simp only[aab.injEq] at hi;subst hi;exact x c k
  .rw[getElem?_set_ne e] at hi
   have u:∀b,aV M H i=some b->b≠M.j id:=λb m B=>by subst B;exact e (d.inj i id _ m h)
   refine aM.step c d k hi (λb m=>⟨q b (u b m),?_⟩) rfl;simp only[Mm.cK];rw[if_neg (u b m)]
 .rw[s] at g t;exact d.inj i A b g t
def V_(a:aI M w H){id:Nat}{cs ds:List V}(g:H[id]?=some (some (.cells cs))){xs:Array Value}{t:TypeId}
  (v:w.heap[M.j id]?=some (.cells xs t (0,0))) {ys:Array Value} (hd:ai M w ds (ys.toList.take ds.length)) (x:∀c∈ds,c.fC=true) :
  eH M H w M (H.set id (some (.cells ds))) (w.setRow (M.j id) ys)/\e_ M M H.length/\aI M (w.setRow (M.j id) ys) (H.set id (some (.cells ds))):=by
 have p:M.al id=true:=(a.si id).2 ⟨_,g⟩;have h:=a.lt p
 have m:aV M H id=some (M.j id):=by simp[aV,g]
 have q:∀i,aV M (H.set id (some (.cells ds))) i=aV M H i:=by
  intro i
  by_cases e:i=id
  .subst e;rw[m];unfold aV;rw[aaq h]
  .unfold aV;rw[getElem?_set_ne e]
 have r:M.gS (M.j id)=some 0:=by have:=a.rel id _ g;simp only[aM] at this;exact this.2.1
 have n:∀k,k≠M.j id->(w.setRow (M.j id) ys).heap[k]?=w.heap[k]?:=λk y=>setRow_other w (M.j id) k ys (λe=>y e)
 have d:eH M H w M (H.set id (some (.cells ds))) (w.setRow (M.j id) ys):={
  os:=rfl
  tape:=rfl
  output:=rfl
  size:=by simp[World.setRow]
  same:=λb z f=>n b (λe=>f ⟨id,by rw[m,e]⟩)
  cells:=λb l o z hl f=>by
   by_cases e:b=M.j id
   .subst e;rw[r] at hl;cases hl;omega
   .exact World.cell?_of_block (w:=w) (n b e)
  oj:=λ_ _ hl=>hl
  jy:=λb l _ hl=>⟨l,hl,aah _⟩
  limo:=λ_ _ _=>rfl
  own:=λb _ f=>by obtain⟨i,hi⟩:=f;exact⟨i,by rw[<-q];exact hi⟩
  fm:=rfl }
 refine⟨d,e_.refl _ _,⟨λi=>?_,λi D hi=>?_,λi A b s u=>?_,a.pa.step d a (e_.refl _ _)⟩⟩
 .by_cases e:i=id
  .subst e;simp only[p,true_iff];exact⟨_,aaq h⟩
  .rw[getElem?_set_ne e];exact a.si i
 .by_cases e:i=id
  .subst e;rw[aaq h] at hi;simp only[aab.injEq] at hi;subst hi;simp only[aM];exact⟨x,r,ys,t,setRow_heap w (M.j i) xs ys t _ v,ai.step d a (e_.refl _ _) hd⟩
  .rw[getElem?_set_ne e] at hi;refine aM.step d a (e_.refl _ _) hi (λb B=>⟨n b (λC=>?_),rfl⟩) rfl;subst C;exact e (a.inj i id _ B m)
 .rw[q] at s u;exact a.inj i A b s u
def Mm.mS(M:Mm)(id:Nat)(z:Z):Mm :=
 { M with al:=λi=>decide (i=id)||M.al i,z:=λi=>if i=id then z else M.z i,
          gS:=λk=>if z.cI=some k then some (z.n*z.sz) else M.gS k }
def Wa(c:aI M w H){id:Nat}{z:Z}(r:lJ H id=true\/∃k,H[id]?=some (some (.zone k)))
  (os:w'.os=w.os) (tape:w'.tape=w.tape) (output:w'.output=w.output) (size:w.heap.size<=w'.heap.size)
  (u:∀b,b<w.heap.size->aV M H id≠some b->w'.heap[b]?=w.heap[b]?)
  (E:∀b l o,aV M H id=some b->M.gS b=some l->o<l->w'.cell? ⟨b,o,none⟩=w.cell? ⟨b,o,none⟩)
  (f:∀b,z.cI=some b->w.heap.size<=b\/aV M H id=some b)
  (F:∀b l,aV M H id=some b->z.cI=some b->M.gS b=some l->l<=z.n*z.sz)
  (v:M.al id=true->vz (M.z id) z)
  (t:match z.cI with
   | none=>z.cap=z.n
   | some b=>0<z.n/\z.n<=z.cap/\0<z.sz/\∃xs e,w'.heap[b]?=some (.cells xs e (0,0))/\xs.size=z.cap*z.sz) :
  eH M H w (M.mS id z) (H.set id (some (.zone z.n))) w'/\e_ M (M.mS id z) H.length/\aI (M.mS id z) w' (H.set id (some (.zone z.n))):=by
 have G:id<H.length:=by
  rcases r with r|⟨k,r⟩
  .exact HD r
  .exact(aae.1 r).1
 have x:(H.set id (some (ay.zone z.n)))[id]?=some (some (.zone z.n)):=aaq G
 have y:aV (M.mS id z) (H.set id (some (.zone z.n))) id=z.cI:=by simp only[aV,x,Mm.mS,if_true]
 have s:∀i,i≠id->aV (M.mS id z) (H.set id (some (.zone z.n))) i=aV M H i:=by
  intro i hi;unfold aV;rw[getElem?_set_ne hi]
  split<;>simp_all [Mm.mS]
 have g:eH M H w (M.mS id z) (H.set id (some (.zone z.n))) w':={
  os:=os
  tape:=tape
  output:=output
  size:=size
  same:=λb a j=>u b a (λe=>j ⟨id,e⟩)
  cells:=λb l o a m j=>by
   by_cases e:aV M H id=some b
   .exact E b l o e m j
   .exact World.cell?_of_block (w:=w) (u b a e)
  oj:=λb a m=>by
   simp only[Mm.mS]
   rw[if_neg];· exact m
   intro e
   rcases f b e with h|h
   .omega
   .obtain⟨l,fA⟩:=c.tw ⟨id,h⟩;rw[m] at fA;cases fA
  jy:=λb l a m=>by
   by_cases e:z.cI=some b
   .refine⟨z.n*z.sz,by simp only[Mm.mS,e,if_true],?_⟩
    rcases f b e with h|h
    .omega
    .exact F b l h e m
   .exact⟨l,by simp only[Mm.mS];rw[if_neg e];exact m,aah _⟩
  limo:=λb a j=>by
   simp only[Mm.mS];rw[if_neg];intro e
   rcases f b e with h|h
   .omega
   .exact j ⟨id,h⟩
  own:=λb a j=>by
   obtain⟨i,hi⟩:=j
   by_cases e:i=id
   .subst e;rw[y] at hi
    rcases f b hi with h|h
    .omega
    .exact⟨i,h⟩
   .rw[s i e] at hi;exact⟨i,hi⟩
  fm:=rfl }
 have A:e_ M (M.mS id z) H.length:=λi _ hi=>by
  refine⟨by simp only[Mm.mS,hi,acG],rfl,?_⟩;simp only[Mm.mS];split
  .rename_i e;subst e;exact v hi
  .exact vz.refl _
 refine⟨g,A,⟨λi=>?_,λi J a=>?_,λi d b p q=>?_,c.pa.step g c A⟩⟩
 .by_cases e:i=id
  .subst e;simp only[Mm.mS,decide_true,aa7,true_iff];exact⟨_,x⟩
  .simp only[Mm.mS,e,decide_false,acD];rw[getElem?_set_ne e];exact c.si i
 .by_cases e:i=id
  .subst e;rw[x] at a;simp only[aab.injEq] at a;subst a;simp only[aM,Mm.mS,if_true,true_and]
   cases B:z.cI with
   | none=>simp only[B] at t |-;exact t
   | some b=>simp only[B,if_true,true_and] at t |-;exact t
  .rw[getElem?_set_ne e] at a;refine aM.step g c A a (λb C=>?_) (by simp only[Mm.mS];rw[if_neg e]);have I:=c.gr ⟨i,C⟩;have D:aV M H id≠some b:=λh=>e (c.inj i id b C h);refine⟨u b I D,?_⟩;simp only[Mm.mS];rw[if_neg];intro h
   rcases f b h with h|h
   .omega
   .exact D h
 .by_cases e:i=id
  .by_cases e':d=id
   .omega
   .subst e;rw[y] at p;rw[s d e'] at q
    rcases f b p with h|h
    .have:=c.gr ⟨d,q⟩;omega
    .exact(c.inj i d b h q)
  .by_cases e':d=id
   .subst e';rw[y] at q;rw[s i e] at p
    rcases f b q with h|h
    .have:=c.gr ⟨i,p⟩;omega
    .exact(c.inj i d b p h)
   .rw[s i e] at p;rw[s d e'] at q;exact c.inj i d b p q
def Wb(M:Mm)(H:ae)(m i:Nat):aV M (H++aan m none) i=aV M H i:=by
 unfold aV
 by_cases hi:i<H.length
 .rw[aa1 hi]
 .rw[abe an,acd (by omega:H.length<=i),ab3]
  by_cases h:i-H.length<m<;>simp[h]
def zxN(H:ae)(m i:Nat)(a:ay):(H++aan m none)[i]?=some (some a)↔H[i]?=some (some a):=by
 by_cases hi:i<H.length
 .rw[aa1 hi]
 .rw[abe an,acd (by omega:H.length<=i),ab3]
  by_cases h:i-H.length<m<;>simp[h]
def Rn(a:aI M w H)(m:Nat):aI M w (H++aan m none) :=
 ⟨λi=>(a.si i).trans (exists_congr λc=>(zxN H m i c).symm),λi c d=>a.rel i c ((zxN H m i c).1 d),
  λi e b f g=>a.inj i e b (by rw[<-Wb M H m];exact f) (by rw[<-Wb M H m];exact g),a.pa⟩
def We(M:Mm)(H:ae)(w:World)(m:Nat):eH M H w M (H++aan m none) w :=
 have own:∀b,u7 M (H++aan m none) b->u7 M H b:=λb ⟨i,hi⟩=>⟨i,by rw[<-Wb M H m];exact hi⟩
 { eH.refl M H w with own:=λb _ a=>own b a }
def Mm.upto(M:Mm)(n:Nat):Mm:={ M with al:=λi=>decide (i<n)&&M.al i }
def V.qQ(n:Nat)(c:V)(h:c.fC=true):(c.cl n).fC=true:=by cases c<;>first|(simp[V.fC] at h;done)|rfl|(simp only[V.cl];split<;>rfl)
def V.qR(n:Nat)(c:V)(h:c.pure=true):c.cl n=c:=by
 cases c<;>first
  | rfl
  | (simp[V.pure] at h;done)
  | (rename_i b tk;cases tk<;>first|rfl|(simp[V.pure] at h;done))
  | (rename_i f a;cases a<;>first|rfl|(simp[V.pure] at h;done))
def g9(n:Nat):∀cs:List V,aZ n cs=cs.map (V.cl n)
 | []=>rfl
 | c::cs=>by simp[aZ,g9 n cs]
def mr.upto{n:Nat}{es:List (List V)}{a:Option Addr}{cap:Nat}{tk:Tk}(h:mr M es a cap tk) :
  mr (M.upto n) es a cap (tk.cl n):=by
 cases tk with
 | no=>trivial
 | full=>exact h
 | own q =>
  simp only[Tk.cl];split
  .rename_i d;obtain⟨a,b,c⟩:=h;exact⟨by simp[Mm.upto,d,a],b,c⟩
  .trivial
mutual
def ar.upto(n:Nat):∀{c:V} {x:Value},ar M w c x->ar (M.upto n) w (c.cl n) x
 | .undef,_,_=>by simp only[V.cl,ar]
 | .mq,_,e=>by simpa only[V.cl,ar] using e
 | .any,_,e=>by simpa only[V.cl,ar] using e
 | .int _ _,_,e=>by simpa only[V.cl,ar] using e
 | .bool _,_,e=>by simpa only[V.cl,ar] using e
 | .str _,_,e=>by simpa only[V.cl,ar] using e
 | .nilp,_,e=>by simpa only[V.cl,ar] using e
 | .nilf,_,e=>by simpa only[V.cl,ar] using e
 | .nilm,_,e=>by simpa only[V.cl,ar] using e
 | .mp id,_,e=>by
  simp only[V.cl];simp only[ar] at e;split
  .rename_i h;simp only[ar];exact⟨by simp[Mm.upto,h,e.1],e.2⟩
  .simp only[ar];rw[e.2];rfl
 | .yld id,_,e=>by
  simp only[V.cl];simp only[ar] at e;split
  .rename_i h;simp only[ar];exact⟨by simp[Mm.upto,h,e.1],e.2⟩
  .simp only[ar];rw[e.2];rfl
 | .gs id k,_,e=>by
  simp only[V.cl];simp only[ar] at e;split
  .rename_i h;simp only[ar];exact⟨by simp[Mm.upto,h,e.1],e.2⟩
  .simp only[ar];obtain⟨_,d,rfl,_⟩:=e;rfl
 | .ptr id l,_,e=>by
  simp only[V.cl];simp only[ar] at e;split
  .rename_i h;simp only[ar];exact⟨by simp[Mm.upto,h,e.1],e.2⟩
  .simp only[ar];rw[e.2];rfl
 | .rs id l k _,_,e=>by
  simp only[V.cl];simp only[ar] at e;split
  .rename_i h;simp only[ar];exact⟨by simp[Mm.upto,h,e.1],e.2⟩
  .simp only[ar];obtain⟨_,d,rfl,_⟩:=e;rfl
 | .cptr m,_,e=>by
  simp only[V.cl,ar] at e |-;obtain⟨p,b,o,g,e⟩:=e
  exact⟨p,b,o,g,fL.upto n p e⟩
 | .vs s tk,_,e=>by
  simp only[V.cl,ar] at e |-;obtain⟨p,a,d,g,i,j,q⟩:=e;refine⟨p,a,d,g,i,?_,q.upto⟩
  cases a with
  | none=>exact j
  | some t=>exact⟨j.1,j.2.1,gE.upto n p j.2.2⟩
 | .fn f d,_,e=>by
  simp only[V.cl,ar] at e |-;obtain⟨xs,g,e⟩:=e
  exact⟨xs,g,ai.upto n e⟩
 | .agg m,_,e=>by
  simp only[V.cl,ar] at e |-;obtain⟨p,xs,g,e⟩:=e;refine⟨λc i=>?_,xs,g,ai.upto n e⟩;rw[g9,abn] at i;obtain⟨c',r,rfl⟩:=i
  exact V.qQ n c' (p c' r)
 | .bc m,_,e=>by
  simp only[V.cl,ar] at e |-;obtain⟨xs,g,e⟩:=e;exact⟨xs,g,ai.upto n e⟩
def ai.upto(n:Nat):∀{cs:List V} {xs:List Value},ai M w cs xs->ai (M.upto n) w (aZ n cs) xs
 | [],_,e=>by simpa only[aZ,ai] using e
 | c::cs,_,e=>by
  simp only[aZ,ai] at e |-;obtain⟨x,a,b,d,f⟩:=e;exact⟨x,a,b,ar.upto n d,ai.upto n f⟩
def fL.upto(n:Nat){b:Nat}:∀{cs:List V} {o:Nat},(∀c∈cs,c.pure=true)->fL M w b cs o->fL (M.upto n) w b cs o
 | [],_,_,_=>by simp only[fL]
 | c::cs,o,p,e=>by
  simp only[fL] at e |-;obtain⟨⟨x,a,rd,f⟩,g⟩:=e;refine⟨⟨x,a,rd,?_⟩,fL.upto n (λd hd=>p d (by simp[hd])) g⟩;have:=ar.upto n f;rwa[V.qR n c (p c ir)] at this
def gE.upto(n:Nat){b:Nat}:∀{es:List (List V)} {o:Nat},(∀e∈es,∀c∈e,c.pure=true)->gE M w b es o->gE (M.upto n) w b es o
 | [],_,_,_=>by simp only[gE]
 | e::es,o,p,k=>by
  simp only[gE] at k |-;exact⟨fL.upto n (p e ir) k.1,gE.upto n (λd hd=>p d (by simp[hd])) k.2⟩
end
def Ro(n:Nat)(H:ae)(i:Nat):(ak n H)[i]?=if i<n then(H[i]?).map (acA (ay.cl n)) else none:=by
 unfold ak;rw[aau,aaE]
 split<;>simp
def zAo(M:Mm)(H:ae)(n i b:Nat)(h:aV (M.upto n) (ak n H) i=some b):aV M H i=some b:=by
 unfold aV at h |-;rw[Ro] at h
 by_cases hi:i<n
 .rw[if_pos hi] at h
  cases a:H[i]? with
  | none=>simp[a] at h
  | some o=>cases o with
   | none=>simp[a] at h
   | some c=>cases c<;>simpa[a,ay.cl,Mm.upto] using h
 .rw[if_neg hi] at h;cases h
def AS(A:aI M w H)(n:Nat):eH M H w (M.upto n) (ak n H) w/\e_ M (M.upto n) n/\aI (M.upto n) w (ak n H):=by
 have jB:=zAo M H n
 have C:eH M H w (M.upto n) (ak n H) w :=
  { eH.refl M H w with
   oj:=λ_ _ h=>h
   jy:=λ_ l _ h=>⟨l,h,aah _⟩
   limo:=λ_ _ _=>rfl
   own:=λb _ J=>by obtain⟨i,hi⟩:=J;exact⟨i,jB i b hi⟩
   fm:=rfl }
 have y:∀u:List V,(∀c∈u,c.fC=true)->∀c∈aZ n u,c.fC=true:=λu a v z=>by
  rw[g9,abn] at z;obtain⟨c',B,rfl⟩:=z;exact V.qQ n c' (a c' B)
 refine⟨C,λi hi K=>⟨by simp[Mm.upto,hi,K],rfl,vz.refl _⟩,⟨λi=>?_,λi D j=>?_,λi G b E F=>A.inj i G b (jB i b E) (jB G b F),λg u L=>?_⟩⟩
 .rw[Ro]
  by_cases hi:i<n
  .simp only[Mm.upto,hi,decide_true,acE,if_true];rw[A.si i];constructor
   .rintro⟨D,j⟩;exact⟨D.cl n,by simp[j]⟩
   .rintro⟨D,j⟩
    cases x:H[i]? with
    | none=>simp[x] at j
    | some o=>cases o with
     | none=>simp[x] at j
     | some b=>exact⟨b,rfl⟩
  .simp[Mm.upto,hi]
 .rw[Ro] at j;split at j
  .rename_i hi
   cases x:H[i]? with
   | none=>simp[x] at j
   | some o=>cases o with
    | none=>simp[x] at j
    | some I =>
     simp only[x,abi,aab.injEq] at j;subst j;have m:=A.rel i I x
     cases I with
     | cells u =>
      simp only[aM,ay.cl] at m |-;obtain⟨a,b,xs,e,c,d⟩:=m
      exact⟨y u a,b,xs,e,c,by rw[g9,aaw,<-g9];exact ai.upto n d⟩
     | grow u X Y =>
      simp only[aM,ay.cl] at m |-;obtain⟨a,b,N,O,xs,e,c,s,d,P⟩:=m
      exact⟨y u a,b,N,O,xs,e,c,s,by rw[g9,aaw,<-g9];exact ai.upto n d,by rw[g9,aaw];exact P⟩
     | zone k=>simpa only[aM,ay.cl,Mm.upto] using m
     | jx u =>
      simp only[aM,ay.cl] at m |-;obtain⟨a,b,xs,e,c,d⟩:=m;refine⟨λv z=>?_,by rw[g9,aaw];exact b,xs,e,c,by rw[g9,aaw,<-g9];exact ai.upto n d⟩;rw[g9,abn] at z;obtain⟨c',B,rfl⟩:=z
      rw[V.qR n c' (a c' B)];exact a c' B
     | map Z =>
      simp only[aM,ay.cl] at m |-;obtain⟨b,ents,c,d,d',f⟩:=m;refine⟨b,ents,by rw[aaw];exact c,?_,?_,f⟩
      .have:=ai.upto n d;rw[g9,abz] at this;rw[abz];exact this
      .have:=ai.upto n d';rw[g9,abz] at this
       rw[abz];exact this
     | dF t pos=>simpa only[aM,ay.cl,Mm.upto] using m
     | loop e0 ps as bo st =>
      simp only[aM,ay.cl] at m |-;obtain⟨a,r,Q,E,F,R,S,T⟩:=m;refine⟨a,r,Q,E,F,R,S,λp U=>?_⟩;obtain⟨q,W,rfl⟩:=abn.1 U;exact ar.upto n (T q W)
  .cases j
 .have:=ar.upto n (A.pa g u L);simpa only[V.cl] using this
open Go Go.RowKit
variable {P:Program} {M M':Mm} {H H1:ae} {w w':World}
def uv:Value->V->Bool
 | .int k n,.int a c=>k==a&&n==c
 | .bool b,.bool d=>b==d
 | .string s,.str s'=>decide (s.data.toList=s')
 | .pointer none,.nilp=>true
 | .slice none 0 0,.vs [] .full=>true
 | .nilFunc,.nilf=>true
 | .map none,.nilm=>true
 | _,_=>false
def sK:List Value->List V->Bool
 | [],[]=>true
 | x::xs,c::a=>uv x c&&sK xs a
 | _,_=>false
def HF:Value->V->Bool
 | .agg xs,.agg a=>sK xs.toList a
 | x,c=>uv x c
def Rp{x:Value}{c:V}(h:uv x c=true):ar M w c x:=by
 unfold uv at h
 split at h<;>(try simp only[aap,aaa,beq_iff_eq,decide_eq_true_eq] at h)
 .obtain⟨rfl,rfl⟩:=h;simp only[ar]
 .subst h;simp only[ar]
 .subst h;simp only[ar]
 .simp only[ar]
 .simp only[ar];exact⟨ir,none,0,rfl,aah _,ir,by simp[mr]⟩
 .simp only[ar]
 .simp only[ar]
def zAp{x:Value}{c:V}(h:uv x c=true):c.pure=true:=by
 unfold uv at h
 split at h<;>first|rfl|simp at h
def FG:∀{xs:List Value} {cs:List V},sK xs cs=true->ai M w cs xs
 | [],[],_=>by simp only[ai]
 | [],_::_,h=>by simp[sK] at h
 | _::_,[],h=>by simp[sK] at h
 | x::xs,c::cs,h=>by
  simp only[sK,aaa] at h;simp only[ai];exact⟨x,xs,rfl,Rp h.1,FG h.2⟩
def HI:∀{xs:List Value} {cs:List V},sK xs cs=true->∀c∈cs,c.pure=true
 | [],[],_=>by simp
 | [],_::_,h=>by simp[sK] at h
 | _::_,[],h=>by simp[sK] at h
 | x::xs,c::cs,h=>by
  simp only[sK,aaa] at h;intro d hd;simp only[acF] at hd
  rcases hd with rfl|hd
  .exact zAp h.1
  .exact HI h.2 d hd
def zC0{x:Value}{c:V}(h:HF x c=true):ar M w c x:=by
 unfold HF at h;split at h
 .rename_i xs b;simp only[ar];exact⟨λc a=>V.cw (HI h c a),xs.toList,ir,FG h⟩
 .exact Rp h
def zC1{a b:V}(h:a.eqc b=some true):a=b:=by
 cases a<;>cases b<;>simp only[V.eqc,reduceCtorEq,aab.injEq] at h
 .split at h
  .rename_i c;subst c;simp at h;subst h;rfl
  .cases h
 .simp at h;subst h;rfl
 .simp at h;subst h;rfl
def ztl:∀{as c:List V},zk as c=some true->as=c
 | [],[],_=>rfl
 | [],_::_,h=>by simp[zk] at h
 | _::_,[],h=>by simp[zk] at h
 | a::as,b::c,h=>by
  simp only[zk] at h;split at h
  .rename_i x y d e;simp only[aab.injEq,aaa] at h;obtain⟨rfl,rfl⟩:=h;rw[zC1 d,ztl e]
  .cases h
def aJ(fm:Fm):Operand->X->Bool
 | .tmp t,.t i=>t==i
 | .const v,.c c=>HF v c
 | .func f,.c (.fn a [])=>f==fm a
 | .global g,.c (.cptr b)=>match fm.gl g with|some ds=>zk ds b==some true|none=>false
 | _,_=>false
structure bn (M:Mm) (w:World) (e:Env) (a:Act) (n:Nat):Prop where
 size:a.tmps.size=n
 defers:a.defers.Nodup/\∀d∈a.defers,∃D,d={ target:=.collected D,args:=#[] }/\w.heap[D]?=some (.deferred (some []))
 rel:∀i,ar M w (e i) (a.tmps.getD i undef)
 pa:CD M w
def fQ{e:Env}{a:Act}{n:Nat}{o:Operand}{x:X}(h:aJ M.fm o x=true)(b:bn M w e a n):ar M w (x.ev e) (a.eval o):=by
 unfold aJ at h
 split at h<;>(try simp only[beq_iff_eq,aap] at h)
 .subst h;exact b.rel _
 .exact zC0 h
 .subst h;simp only[X.ev,ar,Act.eval];exact⟨[],rfl,by simp only[ai]⟩
 .split at h
  .rename_i ds hd;have:=ztl (by simpa using h);subst this;exact b.pa _ _ hd
  .cases h
def qu(fm:Fm):List Operand->List X->Bool
 | [],[]=>true
 | o::a,x::xs=>aJ fm o x&&qu fm a xs
 | _,_=>false
def DJ{e:Env}{a:Act}{n:Nat}:∀{os:List Operand} {xs:List X},qu M.fm os xs=true->bn M w e a n->ai M w (xs.map (X.ev e)) (os.map a.eval)
 | [],[],_,_=>by simp only[aaJ,ai]
 | [],_::_,h,_=>by simp[qu] at h
 | _::_,[],h,_=>by simp[qu] at h
 | o::os,x::xs,h,b=>by
  simp only[qu,aaa] at h;simp only[aaD,ai];exact⟨_,_,rfl,fQ h.1 b,DJ h.2 b⟩
def oA(fm:Fm):Option Operand->Option X->Bool
 | none,none=>true
 | some o,some x=>aJ fm o x
 | _,_=>false
def ix(P:Program)(t:TypeId)(sz:Nat)(a:Bool):Bool :=
 match P.underlying t,P.info? t with
 | some d,some i=>i.size==sz&&(if d.isRow then a else !a&&sz==1)
 | _,_=>false
def Wf{c:V}{x:Value}{cs:List V}(h:ar M w c x)(a:c.cells?=some cs):ai M w cs x.cells.toList/\∀d∈cs,d.fC=true:=by
 cases c<;>simp only[V.cells?,aab.injEq,reduceCtorEq] at a<;>subst a
 case agg cs=>simp only[ar] at h;obtain⟨p,xs,rfl,h⟩:=h;exact⟨by simpa[Value.cells] using h,p⟩
 all_goals
  have b:=V8 h rfl;refine⟨?_,by simp[V.fC]⟩
  have:x.cells=#[x]:=by cases x<;>simp_all [Value.cells,Value.oneCell']
  rw[this];simp only[ai];exact⟨x,[],rfl,h,rfl⟩
def dj(P:Program)(o:Oper)(a:Act)(M:Mm)(H:ae)(w:World)(v:V)(H1:ae):Prop :=
 ∃n w' M',(execOp a.eval o).run P w=.ok n w'/\(match n with|.value rv=>ar M' w' v rv|.skip=>v=.undef|_=>False) /\
  eH M H w M' H1 w'/\e_ M M' H.length/\aI M' w' H1
def dj.plain{o:Oper}{a:Act}{v:V}{rv:Value}(b:aI M w H)(h:(execOp a.eval o).run P w=.ok (.value rv) w)(c:ar M w v rv):dj P o a M H w v H :=
 ⟨_,w,M,h,c,eH.refl M H w,e_.refl _ _,b⟩
section
variable {e:Env} {a:Act} {n:Nat} {o:Oper} {v:V}
def zFl{x:Operand}{c:X}(b:o.op=.move x\/o.op=.assign x)(d:aJ M.fm x c=true)(f:bn M w e a n)(g:aI M w H):dj P o a M H w (c.ev e) H:=by
 refine .plain (rv:=a.eval x) g ?_ (fQ d f)
 rcases b with b|b<;>simp[execOp,b]
def zFP{c x y:Operand}{sc f g:X}(i:o.op=.pick c x y)(j:aJ M.fm c sc=true)(k:aJ M.fm x f=true)(l:aJ M.fm y g=true)(d:bn M w e a n)(m:aI M w H)
  {b:Bool} (p:sc.ev e=.bool b):dj P o a M H w (if b then f.ev e else g.ev e) H:=by
 have h:=fQ j d;rw[p] at h;simp only[ar] at h;refine .plain (rv:=if b then a.eval x else a.eval y) m ?_ (by cases b<;>simp[fQ k d,fQ l d])
 cases b<;>simp[execOp,i,h,asBool]
def zHx{t:TypeId}{x:Operand}{b:X}{id:Nat}{cs:List V}(c:o.op=.box t x)(d:aJ M.fm x b=true)(f:bn M w e a n)(g:aI M w H)
  (h:(b.ev e).cells?=some cs) (j:lJ H id=true):dj P o a M H w (.ptr id 0) (H.set id (some (.cells cs))):=by
 obtain⟨k,l⟩:=Wf (fQ d f) h;obtain⟨s,i,r⟩:=Rl (t:=t) g j k l;refine⟨.value (.pointer (some ⟨w.heap.size,0,none⟩)),_,_,?_,?_,s,i,r⟩
 .simp[execOp,c,Instr.box,newVar,newRow]
 .simp only[ar,Mm.i_,decide_true,aa7,if_true,true_and]
def zC2{t:TypeId}{id:Nat}{z:List V}{i:TypeInfo}{b:Value}(e:o.op=.alloc t)(hi:P.info? t=some i)(f:i.zero=some b)(d:sK b.cells.toList z=true)
  (g:aI M w H) (h:lJ H id=true):dj P o a M H w (.ptr id 0) (H.set id (some (.cells z))):=by
 obtain⟨s,j,r⟩:=Rl (t:=t) (xs:=b.cells) g h (FG (M:=M) (w:=w) d) (λc k=>V.cw (HI d c k));refine⟨.value (.pointer (some ⟨w.heap.size,0,none⟩)),_,_,?_,?_,s,j,r⟩
 .simp[execOp,e,Instr.alloc,zeroValue,typeInfo,hi,f,newVar,newRow]
 .simp only[ar,Mm.i_,decide_true,aa7,if_true,true_and]
def pH(a:Bool)(xs:List Value):Value:=if a then .agg xs.toArray else xs.headD undef
def MZ{b:Bool}{cs:List V}{xs:List Value}(a:mk b cs=some v)(d:ai M w cs xs)(e:∀c∈cs,c.fC=true):ar M w v (pH b xs):=by
 unfold mk at a
 cases b with
 | true=>simp only[if_true,aab.injEq] at a;subst a;simp only[ar,pH,if_true];exact⟨e,xs,rfl,d⟩
 | false =>
  simp only[aap,if_false] at a;split at a
  .simp only[aab.injEq] at a;subst a;simp only[ai] at d;obtain⟨x,f,rfl,h,rfl⟩:=d;simpa[pH] using h
  .cases a
def Wh{t:TypeId}{sz:Nat}{e:Bool}{b off:Nat}{xs:List Value}(a:ix P t sz e=true)(f:xs.length=sz)(c:w.rangeAt b off xs) :
  (Instr.loadAt t (.pointer (some ⟨b,off,none⟩))).run P w=.ok (pH e xs) w:=by
 unfold ix at a;split at a
 .rename_i d i g hi;simp only[aaa,beq_iff_eq] at a;obtain⟨j,a⟩:=a
  by_cases hd:d.isRow=true
  .rw[if_pos hd] at a;subst a;simp only[pH,if_true];exact run_loadAt_mid w b off t xs d c g hd (by rw[hi];simp[j,f])
  .rw[if_neg hd] at a;simp only[aaa,abQ,beq_iff_eq] at a;obtain⟨rfl,rfl⟩:=a
   match xs,f,c with
   | [x],_,c =>
    have h:=c 0 x rfl;simp only[abH] at h
    have k:(isAgg t).run P w=.ok false w:=by
     unfold isAgg;rw[Sem.run_bind,run_underlying g w]
     cases d<;>simp_all [TypeDesc.isRow]
    simp[Instr.loadAt,Instr.sureAddr,loadVar,k,pH,load,Sem.run,h]
 .cases a
def znW{b off:Nat}{cs:List V}(h:fL M w b cs off):∃xs:List Value,ai M w cs xs/\w.rangeAt b off xs:=by
 induction cs generalizing off with
 | nil=>exact⟨[],by simp only[ai],λj v a=>by simp at a⟩
 | cons c cs d =>
  simp only[fL] at h;obtain⟨⟨x,e,_,f⟩,h⟩:=h;obtain⟨xs,g,i⟩:=d h;refine⟨x::xs,by simp only[ai];exact⟨x,xs,rfl,f,g⟩,λj v a=>?_⟩
  cases j with
  | zero=>simp at a;subst a;simpa using e
  | succ j=>simp at a;have:=i j v a;rw[show off+1+j=off+(j+1) by omega] at this;exact this
def zxb{b off k:Nat}{cs:List V}(h:fL M w b cs off):fL M w b (cs.take k) off:=by
 refine DG λi c a=>?_;rw[aaE] at a;split at a
 .exact V6 h a
 .cases a
def zpL{b off k:Nat}{cs:List V}(h:fL M w b cs off):fL M w b (cs.drop k) (off+k):=by refine DG λi c a=>?_;rw[abh] at a;have:=V6 h a;rw[show off+(k+i)=off+k+i by omega] at this;exact this
def Rq{t:TypeId}{x:Operand}{y:X}{base sz:Nat}{i old:Bool}(z:o.op=.load t x)(E:aJ M.fm x y=true)(A:ix P t sz i=true)(F:bn M w e a n)(l:aI M w H)
  (d:aU base e H (.load sz i old y)=some (v,H1)):dj P o a M H w v H1:=by
 have g:=fQ E F;simp only[aU] at d;split at d
 .rename_i id off m;split at d
  .cases d
  .split at d
   .rename_i p G;split at d
    .rename_i q;rw[aai] at d;obtain⟨I,r,d⟩:=d;cases d;rw[m] at g;simp only[ar] at g;have B:=l.rel id _ G;simp only[aM] at B;obtain⟨J,_,xs,K,L,C⟩:=B;have h:=ik C;refine .plain (rv:=pH i (((xs.toList.take p.length).drop off).take sz)) l ?_ (MZ r (wJ (yl C off) sz) (λc s=>J c (aao (aak s))))
     have:=Wh (P:=P) (w:=w) (b:=M.j id) (off:=off) (xs:=((xs.toList.take p.length).drop off).take sz) A (by rw[aaf,aas,h];omega) (λj u f=>by
      rw[aaE] at f;split at f
      .rw[abh,aaE] at f;split at f
       .rw[cell_of_row w (M.j id) (off+j) xs K (0,0) L];simpa using f
       .cases f
      .cases f)
     simp[execOp,z,g.2,this]
    .cases d
   .cases d
 .rename_i p m;split at d
  .rename_i q;rw[aai] at d;obtain⟨I,r,d⟩:=d;cases d;rw[m] at g;simp only[ar] at g;obtain⟨N,b,off,O,Q⟩:=g;obtain⟨xs,D,R⟩:=znW (zxb (k:=sz) Q);refine .plain (rv:=pH i xs) l ?_ (MZ r D (λc s=>V.cw (N c (aak s))));have:=Wh (P:=P) (w:=w) A (by rw[ik D];simp;omega) R;simp[execOp,z,O,this]
  .cases d
 .cases d
def Rr{xs:Array Value}{k i:Nat}{x:Value}(h:(xs.toList.take k)[i]?=some x):xs[i]?=some x:=by
 rw[aaE] at h;split at h
 .simpa using h
 .cases h
def zq3{l n:List Value}{k off:Nat}(j:k<=l.length)(h:off+n.length<=k) :
  (l.take off++n++l.drop (off+n.length)).take k=(l.take k).take off++n++(l.take k).drop (off+n.length):=by
 have d:(l.take k).length=k:=by rw[aaf];omega
 obtain⟨a,c⟩:=bb (l.take k);obtain⟨b,e⟩:=bb (l.drop k)
 have f:l=a++b:=by rw[c,e,abp]
 rw[<-c] at d |-;have g:(a++b).take off=a.take off:=List.take_append_of_le_length an;have i:(a++b).drop (off+n.length)=a.drop (off+n.length)++b:=List.drop_append_of_le_length an;rw[f,g,i,<-abR];refine List.take_left' ?_;simp only[aaF,aaf,aas];omega
def Rs{t:TypeId}{x y:Operand}{A B:X}{base sz:Nat}(O:o.op=.store t x y)(Q:aJ M.fm x A=true)(R:aJ M.fm y B=true)(hi:(P.info? t).map (·.size)=some sz)
  (C:bn M w e a n) (D:aI M w H) (d:aU base e H (.store sz A B)=some (v,H1)):dj P o a M H w v H1:=by
 have p:=fQ Q C;simp only[aU] at d;split at d
 .rename_i id b ds S T;split at d
  .rename_i g E;split at d
   .rename_i h;cases d;rw[S] at p;simp only[ar] at p;have F:=D.rel id _ E;simp only[aM] at F;obtain⟨G,_,xs,U,I,q⟩:=F;have k:=ik q;obtain⟨hd,J⟩:=Wf (fQ R C) T;have l:=ik hd
    have V:∀u∈(a.eval y).cells.toList,u.oneCell'=true:=by
     intro u W;obtain⟨i,hi⟩:=acf W
     have K:i<ds.length:=by rw[<-l];exact(aae.1 hi).1
     obtain⟨x',L,Y⟩:=ou hd (abX K);rw[hi] at L;cases L;exact V8 Y (J _ (ab0 K))
    have N:g.length<=xs.toList.length:=by rw[aaf] at k;omega
    have Z:g.length<=xs.size:=by simpa using N
    have m:=run_storeCells_at P (M.j id) b U (a.eval y).cells.toList 0 xs w I (by rw[l];omega) V;simp only[abH] at m
    obtain⟨s,ii,r⟩:=V_ (ds:=g.take b++ds++g.drop (b+sz)) D E I (ys:=(xs.toList.take b++(a.eval y).cells.toList++xs.toList.drop (b+(a.eval y).cells.toList.length)).toArray)
     (by
      rw[show(g.take b++ds++g.drop (b+sz)).length=g.length by simp only[aaF,aaf,aas];omega];simp only[];rw[zq3 N (by rw[l];omega)];refine zj (zj (wJ q b) hd) ?_;rw[l,h.1]
      exact yl q _)
     (λc f=>by
      simp only[abx] at f
      rcases f with(f|f)|f
      .exact G c (aak f)
      .exact J c f
      .exact G c (aao f))
    refine⟨.skip,_,_,?_,rfl,s,ii,r⟩
    have dD:(a.eval y).cells.size=sz:=by rw[<-aaU,l,h.1]
    cases z:P.info? t with
    | none=>simp[z] at hi
    | some i =>
     have nS:i.size=sz:=by simpa[z] using hi
     have Wj:(storeVar t ⟨M.j id,b,none⟩ (a.eval y)).run P w=(storeCells ⟨M.j id,b,none⟩ (a.eval y).cells.toList 0).run P w:=by simp[storeVar,sizeOf,typeInfo,z,nS,dD]
     simp only[execOp,O,Instr.storeAt,p.2,Instr.sureAddr,Sem.run_bind,Sem.run_pure,Result.andThen_ok,Wj,m]
   .cases d
  .cases d
 .cases d
end
open Go Go.RowKit
variable {P:Program} {M M':Mm} {H H1:ae} {w w':World}
variable {e:Env} {a:Act} {n:Nat} {o:Oper} {v:V}
def ztm{t:TypeId}{d:TypeDesc}(a:P.underlying t=some d):(isAgg t).run P w=.ok d.isRow w:=by
 unfold isAgg;rw[Sem.run_bind,run_underlying a w]
 cases d<;>simp[TypeDesc.isRow]
def Wm{t:TypeId}{sz off:Nat}{b:Bool}{xs:Array Value}(a:ix P t sz b=true)(g:off+sz<=xs.size) :
  (part t xs off).run P w=.ok (pH b ((xs.toList.drop off).take sz)) w:=by
 unfold ix at a;split at a
 .rename_i d i c hi;simp only[aaa,beq_iff_eq] at a;obtain⟨f,a⟩:=a
  by_cases hd:d.isRow=true
  .rw[if_pos hd] at a;subst a
   have:xs.extract off (off+sz)=((xs.toList.drop off).take sz).toArray:=by apply abc;simp[Array.toList_extract,abU]
   simp[part,ztm c,hd,sizeOf,typeInfo,hi,f,pH,this]
  .rw[if_neg hd] at a;simp only[aaa,abQ,beq_iff_eq] at a;obtain⟨rfl,rfl⟩:=a
   have e:off<xs.size:=an
   have:(xs.toList.drop off).take 1=[xs[off]]:=by rw[List.drop_eq_getElem_cons (by simpa using e)];simp
   simp[part,ztm c,hd,e,pH,this]
 .cases a
def Ko(P:Program)(t:TypeId)(f:Nat)(off:Nat):Option TypeId :=
 match P.underlying t with
 | some (.struct b)=>match b[f]? with
  | some a=>if a.offset=off then some a.type else none
  | none=>none
 | _=>none
def zC3{t:TypeId}{x:Operand}{l:X}{f base off ft:Nat}{i:TypeInfo}(q:o.op=.fieldAddr t x f)(r:aJ M.fm x l=true)(d:Ko P t f off=some ft)
  (hi:P.info? ft=some i) (s:i.size≠0) (u:bn M w e a n) (m:aI M w H) (h:aU base e H (.p9 off l)=some (v,H1)):dj P o a M H w v H1:=by
 have g:=fQ r u;unfold Ko at d;split at d
 .rename_i G y;split at d
  .rename_i I z;split at d
   .rename_i A;cases d
    have p:∀b k,a.eval x=.pointer (some ⟨b,k,none⟩)->(execOp a.eval o).run P w=.ok (.value (.pointer (some ⟨b,k+off,none⟩))) w:=by intro b k B;simp[execOp,q,B,Instr.fieldAt,run_underlying y,z,Instr.sureAddr,fieldPlace,sizeOf,typeInfo,hi,s,Addr.add_lit,A]
    simp only[aU] at h;split at h
    .rename_i id k j;cases h;rw[j] at g;simp only[ar] at g;exact .plain m (p _ _ g.2) (by simp only[ar];exact⟨g.1,trivial⟩)
    .rename_i J j;cases h;rw[j] at g;simp only[ar] at g;obtain⟨C,b,k,D,E⟩:=g;exact .plain m (p _ _ D) (by simp only[ar];exact⟨λc F=>C c (aao F),b,k+off,rfl,zpL E⟩)
    .cases h
   .cases d
  .cases d
 .cases d
def zHy{t:TypeId}{x:Operand}{i:X}{f base off sz ft:Nat}{g:Bool}(l:o.op=.field t x f)(m:aJ M.fm x i=true)(d:Ko P t f off=some ft)
  (p:ix P ft sz g=true) (q:bn M w e a n) (r:aI M w H) (b:aU base e H (.Hv off sz g i)=some (v,H1)):dj P o a M H w v H1:=by
 have h:=fQ m q;unfold Ko at d;split at d
 .rename_i G s;split at d
  .rename_i I u;split at d
   .rename_i y;cases d;simp only[aU] at b;split at b
    .rename_i J z;split at b
     .rename_i A;rw[aai] at b;obtain⟨K,B,b⟩:=b;cases b;rw[z] at h;simp only[ar] at h;obtain⟨C,xs,D,j⟩:=h;have k:=ik j;have E:=Wm (P:=P) (w:=w) (xs:=xs.toArray) (off:=off) p (by simp;omega);refine .plain (rv:=pH g ((xs.drop off).take sz)) r ?_ (MZ B (wJ (yl j off) sz) (λc F=>C c (aao (aak F))));simp[execOp,l,D,Instr.field,run_underlying s,u,asAgg,y,E]
     .cases b
    .cases b
   .cases d
  .cases d
 .cases d
def zxc{b:Nat}{es:List (List V)}{off sz:Nat}(h:gE M w b es off)(a:∀e∈es,e.length=sz){i:Nat}{c:List V}(hi:es[i]?=some c):fL M w b c (off+i*sz):=by
 induction es generalizing off i with
 | nil=>simp at hi
 | cons e es f =>
  simp only[gE] at h
  cases i with
  | zero=>simp at hi;subst hi;simpa using h.1
  | succ i =>
   simp at hi;have:=f h.2 (λd hd=>a d (by simp[hd])) hi;rw[a e ir] at this;rw[show off+sz+i*sz=off+(i+1)*sz by rw[aaY,abj];omega] at this;exact this
def elemOf?(P:Program)(t:TypeId):Option TypeId :=
 match P.underlying t with
 | some (.slice a)=>some a
 | _=>none
def elemOf?_some{t a:TypeId}(h:elemOf? P t=some a):P.underlying t=some (.slice a):=by
 unfold elemOf? at h;split at h
 .cases h;assumption
 .cases h
def arrOf?(P:Program)(t:TypeId):Option (Nat×TypeId) :=
 match P.underlying t with
 | some (.array k a)=>some (k,a)
 | _=>none
def arrOf?_some{t a:TypeId}{k:Nat}(h:arrOf? P t=some (k,a)):P.underlying t=some (.array k a):=by
 unfold arrOf? at h;split at h
 .cases h;assumption
 .cases h
def zC4{t:TypeId}{x y:Operand}{C D:X}{base sz E:Nat}{i:TypeInfo}(R:o.op=.indexAddr t x y)(S:aJ M.fm x C=true)(T:aJ M.fm y D=true)(U:elemOf? P t=some E)
  (hi:P.info? E=some i) (V:i.size=sz) (F:bn M w e a n) (G:aI M w H) (b:aU base e H (.re sz C D)=some (v,H1)):dj P o a M H w v H1:=by
 have h:=fQ S F;have l:=fQ T F;have W:=elemOf?_some U
 have I:∀(f:Addr) (g d:Nat) (k:IntKind) (j:Int),a.eval x=.slice (some f) g d->a.eval y=.int k j->0<=j->j<g ->
   (execOp a.eval o).run P w=.ok (.value (.pointer (some (f.add (j.toNat*sz))))) w:=by
  intro f g d k j Y Z h3 h4;simp[execOp,R,Y,Z,Instr.indexAt,run_underlying W,asIntOf,h3,h4,sizeOf,typeInfo,hi,V]
 simp only[aU] at b;split at b
 .rename_i es tk k j u z;split at b
  .rename_i m;split at b
   .rename_i J p;split at b
    .rename_i q;cases b;rw[u] at h;rw[z] at l;simp only[ar] at h l;obtain⟨me,f,d,A,B,r,_⟩:=h;have ah:=(aae.1 p).1
     cases f with
     | none=>obtain⟨rfl,_⟩:=r;simp at p
     | some f =>
      obtain⟨s,⟨K,L⟩,r⟩:=r;have N:=acg p
      have:K=sz:=by rw[<-L J N,q]
      subst this;obtain⟨O,Q,hb⟩:=f;simp only at s r;have s:=s.resolve_left (λm=>by rw[m] at p;simp at p);subst s;refine .plain G (I ⟨O,Q,none⟩ es.length d k j A l m an) ?_;simp only[ar,Addr.add_lit];exact⟨λc hc=>me J N c hc,O,Q+j.toNat*K,rfl,zxc r L p⟩
    .cases b
   .cases b
  .cases b
 .rename_i id he k hf kk j u z;split at b
  .rename_i m;cases b;rw[u] at h;rw[z] at l;simp only[ar] at h l;obtain⟨ha,d,A,B⟩:=h;refine .plain G (I _ _ d _ j A l m.1 m.2) ?_;simp only[ar,Addr.add_lit];exact⟨ha,trivial⟩
  .cases b
 .cases b
def zAq{t:TypeId}{x y:Operand}{q r:X}{base sz s len:Nat}{i:TypeInfo}(B:o.op=.indexAddr t x y)(C:aJ M.fm x q=true)(D:aJ M.fm y r=true)(E:arrOf? P t=some (len,s))
  (hi:P.info? s=some i) (F:i.size=sz) (u:bn M w e a n) (z:aI M w H) (d:aU base e H (.m9 len sz q r)=some (v,H1)):dj P o a M H w v H1:=by
 have f:=fQ C u;have g:=fQ D u;have G:=arrOf?_some E
 have A:∀(b l:Nat) (k:IntKind) (j:Int),a.eval x=.pointer (some ⟨b,l,none⟩)->a.eval y=.int k j->0<=j->j<len ->
   (execOp a.eval o).run P w=.ok (.value (.pointer (some ⟨b,l+j.toNat*sz,none⟩))) w:=by
  intro b l k j I J K L;simp[execOp,B,I,J,Instr.indexAt,run_underlying G,asIntOf,K,L,sizeOf,typeInfo,hi,F,Instr.sureAddr,Addr.add_lit]
 simp only[aU] at d;split at d
 .rename_i id N k j m p;split at d
  .rename_i h;cases d;rw[m] at f;rw[p] at g;simp only[ar] at f g;exact .plain z (A _ _ _ j f.2 g h.1 h.2) (by simp only[ar];exact⟨f.1,trivial⟩)
  .cases d
 .rename_i T k j m p;split at d
  .rename_i h;cases d;rw[m] at f;rw[p] at g;simp only[ar] at f g;obtain⟨O,b,l,Q,R⟩:=f;exact .plain z (A _ _ _ j Q g h.1 h.2) (by simp only[ar];exact⟨λc S=>O c (aao S),b,_,rfl,zpL R⟩)
  .cases d
 .cases d
def zHz{t:TypeId}{x y:Operand}{q r:X}{base sz g len:Nat}{h:Bool}(B:o.op=.index t x y)(C:aJ M.fm x q=true)(D:aJ M.fm y r=true)(E:arrOf? P t=some (len,g))
  (f:ix P g sz h=true) (s:bn M w e a n) (F:aI M w H) (b:aU base e H (.idx len sz h q r)=some (v,H1)):dj P o a M H w v H1:=by
 have l:=fQ C s;have m:=fQ D s;have G:=arrOf?_some E;simp only[aU] at b;split at b
 .rename_i R k j I J;split at b
  .rename_i u;rw[aai] at b;obtain⟨S,K,b⟩:=b;cases b;rw[I] at l;rw[J] at m;simp only[ar] at l m;obtain⟨L,xs,N,z⟩:=l;have A:=ik z;have O:=Wm (P:=P) (w:=w) (xs:=xs.toArray) (off:=j.toNat*sz) f (by simp;omega)
   have p:∃i,P.info? g=some i/\i.size=sz:=by
    unfold ix at f;split at f
    .rename_i d i _ hi;simp only[aaa,beq_iff_eq] at f;exact⟨i,hi,f.1⟩
    .cases f
   obtain⟨i,hi,p⟩:=p;refine .plain (rv:=pH h ((xs.drop (j.toNat*sz)).take sz)) F ?_ (MZ K (wJ (yl z _) sz) (λc Q=>L c (aao (aak Q))));simp[execOp,B,N,m,Instr.index,asIntOf,run_underlying G,u.1,u.2.1,sizeOf,typeInfo,hi,p,O]
  .cases b
 .cases b
def valOf:V->Value
 | .int k n=>.int k n
 | .bool b=>.bool b
 | .str s=>.string ⟨s.toArray⟩
 | _=>undef
def zgV(s:List UInt8):(ByteArray.mk s.toArray).size=s.length:=by simp[ByteArray.size]
def zHA{f L:TypeId}{x y:Operand}{F G:X}{base:Nat}{op:BinOp}(I:o.op=.binOp op f x y L)(N:aJ M.fm x F=true)(O:aJ M.fm y G=true)
  (J:bn M w e a n) (K:aI M w H) (h:aU base e H (.bin op F G)=some (v,H1)):dj P o a M H w v H1:=by
 have i:=fQ N J;have j:=fQ O J;simp only[aU] at h;rw[aai] at h;obtain⟨d,b,h⟩:=h;simp only[abW.injEq] at h;obtain⟨rfl,rfl⟩:=h;unfold V9 at b;split at b
 .rename_i k p l q m r;rw[m] at i;rw[r] at j;simp only[ar] at i j
  have z:∀w,(eqGuard op f x y (.int k p) (.int l q)).run P w=.ok () w:=by intro w;unfold eqGuard;cases op<;>simp
  have g:(execOp a.eval o).run P w=((binOp op f (.int k p) (.int l q)).run P w).andThen λu w'=>.ok (.value u) w':=by
   simp only[execOp,I,i,j,Sem.run_bind,z,Result.andThen_ok]
   cases(binOp op f (.int k p) (.int l q)).run P w<;>simp[Result.andThen]
  have c:(binOp op f (.int k p) (.int l q)).run P w=.ok (valOf d) w->ar M w d (valOf d)->dj P o a M H w d H:=by intro A B;refine .plain (rv:=valOf d) K ?_ B;rw[g,A];rfl
  cases op<;>simp only at b
  case shl|shr =>
   split at b
   .cases b
   .rename_i C;simp only[aab.injEq] at b;subst b;refine c ?_ (by simp only[ar,valOf]);simp[binOp,Op.shift,C,valOf,jz,jZ]
  case quo|rem =>
   split at b
   .rename_i D;subst D;split at b
    .cases b
    .rename_i C;simp only[aab.injEq] at b;subst b;refine c ?_ (by simp only[ar,valOf]);simp[binOp,Op.intDiv,C,valOf,kF,gn]
   .cases b
  all_goals
   split at b
   .rename_i D;subst D;simp only[aab.injEq] at b;subst b;refine c ?_ (by simp only[ar,valOf]);simp[binOp,Op.intArith,Op.intBits,Op.intCmp,valOf,aC,bO,dS,jY,vA,vB,Km]
   .cases b
 .rename_i s t m r;rw[m] at i;rw[r] at j;simp only[ar] at i j
  have z:∀w,(eqGuard op f x y (.string ⟨s.toArray⟩) (.string ⟨t.toArray⟩)).run P w=.ok () w:=by intro w;unfold eqGuard;cases op<;>simp
  have g:(execOp a.eval o).run P w=((binOp op f (.string ⟨s.toArray⟩) (.string ⟨t.toArray⟩)).run P w).andThen λu w'=>.ok (.value u) w':=by
   simp only[execOp,I,i,j,Sem.run_bind,z,Result.andThen_ok]
   cases(binOp op f (.string ⟨s.toArray⟩) (.string ⟨t.toArray⟩)).run P w<;>simp[Result.andThen]
  have c:(binOp op f (.string ⟨s.toArray⟩) (.string ⟨t.toArray⟩)).run P w=.ok (valOf d) w->ar M w d (valOf d)->dj P o a M H w d H:=by intro A B;refine .plain (rv:=valOf d) K ?_ B;rw[g,A];rfl
  cases op<;>simp only[aab.injEq,reduceCtorEq] at b
  case add =>
   split at b
   .rename_i E;simp only[aab.injEq] at b;subst b;refine c ?_ (by simp only[ar,valOf]);rw[binOp_string_add,run_string_add_sum w _ _ (by rw[zgV,zgV];exact E),ByteArray.mk_append_mk,valOf]
   .cases b
  all_goals
   subst b;refine c ?_ (by simp only[ar,valOf]);simp[binOp,Op.stringOp,valOf]
 .cases b
def zHB{b m:TypeId}{x y:Operand}{g h:X}{base:Nat}{neg:Bool}(i:o.op=.binOp (if neg then .neq else .eql) b x y m)(r:aJ M.fm x g=true)(s:aJ M.fm y h=true)
  (j:P.underlying b=some .bool) (k:bn M w e a n) (t:aI M w H) (c:aU base e H (.beq neg g h)=some (v,H1)):dj P o a M H w v H1:=by
 have d:=fQ r k;have f:=fQ s k;simp only[aU] at c;split at c
 .rename_i p q u z;cases c;rw[u] at d;rw[z] at f;simp only[ar] at d f;refine .plain (rv:=.bool (if neg then !(p==q) else p==q)) t ?_ (by simp only[ar])
  have l:∀op w,(eqGuard op b x y (.bool p) (.bool q)).run P w=.ok () w:=by intro op w;unfold eqGuard;cases op<;>simp
  cases neg
  .simp only[execOp,i,d,f,Sem.run_bind,l,Result.andThen_ok,aap,if_false,run_eql_bool w b p q j];rfl
  .simp only[execOp,i,d,f,Sem.run_bind,l,Result.andThen_ok,if_true,run_neq_bool w b p q j];rfl
 .cases c
def zMT{j:TypeId}{x:Operand}{i:X}{base:Nat}{op:UnOp}(f:o.op=.unOp op j x)(l:aJ M.fm x i=true)
  (m:bn M w e a n) (g:aI M w H) (d:aU base e H (.un op i)=some (v,H1)):dj P o a M H w v H1:=by
 have b:=fQ l m;simp only[aU] at d;rw[aai] at d;obtain⟨q,c,d⟩:=d;cases d;unfold HB at c;split at c
 .rename_i k p h;rw[h] at b;simp only[ar] at b
  cases op<;>simp only[aab.injEq,reduceCtorEq] at c<;>subst c
  .refine .plain (rv:=.int k (AK k p)) g ?_ (by simp only[ar]);simp[execOp,f,b,Op.unary,Op.intArith,AK]
  .refine .plain (rv:=.int k (AL k p)) g ?_ (by simp only[ar]);simp[execOp,f,b,Op.unary,Op.intBits,AL]
 .rename_i p h;rw[h] at b;simp only[ar] at b
  cases op<;>simp only[aab.injEq,reduceCtorEq] at c<;>subst c
  refine .plain (rv:=.bool !p) g ?_ (by simp only[ar]);simp[execOp,f,b,Op.unary]
 .cases c
def zFQ{st dt:TypeId}{x:Operand}{d:X}{base:Nat}{k:IntKind}{f:TypeDesc}(g:o.op=.convert st dt x)(h:aJ M.fm x d=true)(i:P.underlying st=some f)(hd:P.underlying dt=some (.int k))
  (j:bn M w e a n) (l:aI M w H) (b:aU base e H (.conv k d)=some (v,H1)):dj P o a M H w v H1:=by
 have c:=fQ h j;simp only[aU] at b;split at b
 .rename_i q p m;cases b;rw[m] at c;simp only[ar] at c;refine .plain (rv:=.int k (fc k p)) l ?_ (by simp only[ar]);simp[execOp,g,c,convert,run_underlying i,run_underlying hd,Conv.intToInt,fc]
 .cases b
def zFR{f b:Nat}{cap:Array Operand}{c:List X}(d:o.op=.makeFunc (.func f) #[] cap)(g:f=M.fm b)(h:qu M.fm cap.toList c=true)
  (i:bn M w e a n) (j:aI M w H):dj P o a M H w (.fn b (c.map (X.ev e))) H:=by
 refine .plain (rv:=.func (.func (M.fm b)) #[] (cap.toList.map a.eval).toArray) j ?_ (by simp only[ar];exact⟨_,rfl,DJ h i⟩)
 have:(cap.toList.map a.eval).toArray=cap.map a.eval:=by apply abc;simp
 rw[this];simp[execOp,d,Instr.makeFunc,g]
def zHC{x:Operand}{d:X}{base i:Nat}(f:o.op=.extract x i)(g:aJ M.fm x d=true)(h:bn M w e a n)(j:aI M w H)
  (b:aU base e H (.ext i d)=some (v,H1)):dj P o a M H w v H1:=by
 have c:=fQ g h;simp only[aU] at b;split at b
 .rename_i s k;rw[aai] at b;obtain⟨t,l,b⟩:=b;cases b;rw[k] at c;simp only[ar] at c;obtain⟨xs,m,p⟩:=c;obtain⟨y,q,r⟩:=ou p l;refine .plain (rv:=y) j ?_ r
  have:xs.toArray[i]?=some y:=by simpa using q
  simp[execOp,f,m,Instr.extract,this]
 .cases b
def zC5{x:Operand}{m:X}{base:Nat}(i:o.op=.nilCheck x)(p:aJ M.fm x m=true)(q:bn M w e a n)(j:aI M w H)
  (g:aU base e H (.rf m)=some (v,H1)):dj P o a M H w v H1:=by
 have c:=fQ p q;simp only[aU] at g;split at g
 .rename_i id k h;cases g;rw[h] at c;have d:=c;simp only[ar] at d;refine .plain (rv:=a.eval x) j ?_ c;simp[execOp,i,d.2]
 .rename_i s h;cases g;rw[h] at c;have d:=c;simp only[ar] at d;obtain⟨_,b,k,l,_⟩:=d;refine .plain (rv:=a.eval x) j ?_ c;simp[execOp,i,l]
 .rename_i f r h;cases g;rw[h] at c;have d:=c;simp only[ar] at d;obtain⟨xs,l,_⟩:=d;refine .plain (rv:=a.eval x) j ?_ c;simp[execOp,i,l]
 .cases g
def zHD{t:TypeId}{x:Operand}{m:X}{base:Nat}{st:Bool}(g:o.op=.call { callee:=.builtin .len,args:=#[x],argTypes:=#[t] })(p:aJ M.fm x m=true)
  (b:if st then P.underlying t=some .string else ∃h,elemOf? P t=some h) (q:bn M w e a n) (i:aI M w H)
  (d:aU base e H (.len st m)=some (v,H1)):dj P o a M H w v H1:=by
 have c:=fQ p q;simp only[aU] at d;split at d
 .rename_i r tk f;cases d;simp only[aap,if_false] at b;obtain⟨h,b⟩:=b;rw[f] at c;simp only[ar] at c;obtain⟨_,z,j,l,_⟩:=c;refine .plain (rv:=.int .i64 r.length) i ?_ (by simp only[ar]);simp[execOp,g,resolve,invoke,builtin,l,Builtin.len_,run_underlying (elemOf?_some b),goInt]
 .rename_i id u k y f;cases d;simp only[aap,if_false] at b;obtain⟨h,b⟩:=b;rw[f] at c;simp only[ar] at c;obtain⟨_,j,l,_⟩:=c;refine .plain (rv:=.int .i64 k) i ?_ (by simp only[ar]);simp[execOp,g,resolve,invoke,builtin,l,Builtin.len_,run_underlying (elemOf?_some b),goInt]
 .rename_i s f;cases d;simp only[if_true] at b;rw[f] at c;simp only[ar] at c;refine .plain (rv:=.int .i64 s.length) i ?_ (by simp only[ar]);simp[execOp,g,resolve,invoke,builtin,c,Builtin.len_,run_underlying b,goInt,zgV]
 .cases d
def Kp(P:Program)(t:TypeId)(k:IntKind):Bool:=match P.underlying t with|some (.int a)=>k==a|_=>false
def Kq{t:TypeId}{k:IntKind}(h:Kp P t k=true):P.underlying t=some (.int k):=by
 unfold Kp at h;split at h
 .rename_i b a;simp only[beq_iff_eq] at h;rw[h];exact a
 .cases h
def Rt(P:Program)(t:TypeId):Bool:=match P.underlying t with|some .bool=>true|_=>false
def Rv{t:TypeId}(h:Rt P t=true):P.underlying t=some .bool:=by
 unfold Rt at h;split at h
 .assumption
 .cases h
def CF(P:Program)(t:TypeId):Bool:=match P.underlying t with|some .string=>true|_=>false
def CG{t:TypeId}(h:CF P t=true):P.underlying t=some .string:=by
 unfold CF at h;split at h
 .assumption
 .cases h
def xg{es:List (List V)}{sz:Nat}(h:∀e∈es,e.length=sz):es.flatten.length=es.length*sz:=by
 induction es with
 | nil=>simp
 | cons e es a=>simp only[aaH,aaF,a (λd hd=>h d (by simp[hd])),h e ir,abg,aaY,abj];omega
def Rw{b off:Nat}{es:List (List V)}(h:gE M w b es off):∃xs:List Value,ai M w es.flatten xs/\w.rangeAt b off xs:=znW (Kl.1 h)
def Wo{b:Nat}{xs:List Value}:∀{es:List (List V)} {off:Nat},ai M w es.flatten xs->w.rangeAt b off xs->(∀i,i<xs.length->Rd M b (off+i))->gE M w b es off:=by intro es off d e f;rw[Kl];refine DG λi c g=>?_;obtain⟨x,a,h⟩:=ou d g;exact⟨x,e i x a,f i (aae.1 a).1,h⟩
def zu8{cs:List V}{xs:List Value}(h:ai M w cs xs)(d:∀c∈cs,c.fC=true):∀u∈xs,u.oneCell'=true:=by
 intro u e;obtain⟨i,hi⟩:=acf e
 have a:i<cs.length:=by rw[<-ik h];exact(aae.1 hi).1
 obtain⟨g,b,f⟩:=ou h (abX a);rw[hi] at b;cases b;exact V8 f (d _ (ab0 a))
def zAr{c:V}{fs:List (List V)}{x:Value}{t:TypeId}{sz:Nat}(a:(∃E,P.underlying t=some (.slice E))\/P.underlying t=some .string)(h:ar M w c x)(e:c.elems?=some fs)(p:∀f∈fs,f.length=sz) :
  ∃k,Src P sz t x fs.length k w/\ai M w fs.flatten k:=by
 cases c<;>simp only[V.elems?,aab.injEq,reduceCtorEq] at e<;>subst e
 case vs fs tk =>
  simp only[ar] at h;obtain⟨F,q,g,rfl,G,m,_⟩:=h
  cases q with
  | none =>
   obtain⟨rfl,rfl⟩:=m
   exact⟨[],⟨a,λ_=>rfl,run_firstCells_none w sz 0 0 0,run_firstCells_none w.drew sz 0 0 0,ir,λ_ h=>by cases h⟩,by simp only[abb,ai]⟩
  | some q =>
   obtain⟨b,d,sp⟩:=q;obtain⟨o,_,m⟩:=m
   by_cases y:fs=[]
   .subst y
    exact⟨[],⟨a,λ_=>rfl,run_firstCells_some w sz 0 ⟨b,d,sp⟩ 0 g [] ir (λj u a=>by simp at a),run_firstCells_some w.drew sz 0 ⟨b,d,sp⟩ 0 g [] ir (λj u a=>by simp at a),ir,ir⟩,
     by simp only[abb,ai]⟩
   have o:=o.resolve_left y;simp only at o m;subst o;obtain⟨xs,n,H⟩:=Rw m
   have r:xs.length=fs.length*sz:=by rw[ik n,xg p]
   have z:∀j u,xs[j]?=some u->w.cell? ((⟨b,d,none⟩:Addr).add j)=some u:=λj u a=>by rw[Addr.add_mid];exact H j u a
   refine⟨xs,⟨a,λ_=>rfl,run_firstCells_some w sz fs.length ⟨b,d,none⟩ fs.length g xs r z,run_firstCells_some w.drew sz fs.length ⟨b,d,none⟩ fs.length g xs r (by simpa using z),r,zu8 n λc e=>?_⟩,n⟩;obtain⟨f,I,e⟩:=abu.1 e;exact V.cw (F f I c e)
 case str s =>
  simp only[ar] at h;subst h
  have l:(rj s).length=s.length:=by simp[rj]
  have A:(ByteArray.mk s.toArray).size=s.length:=by simp[ByteArray.size]
  by_cases v:s=[]
  .subst v
   refine⟨[],⟨a,λ_=>rfl,?_,?_,by simp[rj],λ_ h=>by cases h⟩,by simp only[rj,aaJ,abb,ai]⟩<;>simp[Builtin.firstCells,rj]<;>rfl
  .have n:sz=1:=by
    cases s with
    | nil=>exact absurd rfl v
    | cons b s=>have:=p [V.int .u8 b.toNat] (by simp[rj]);simpa using this.symm
   subst n;refine⟨byteCells ⟨s.toArray⟩,?_,?_⟩
   .rw[l,<-A];exact⟨a,λ_=>rfl,firstCells_string _ w,firstCells_string _ w.drew,by rw[byteCells_length,acI],λu a=>by obtain⟨_,_,rfl⟩:=abn.1 a;rfl⟩
   .have J:(rj s).flatten=s.map λb=>V.int .u8 b.toNat:=by
     clear p l A v
     induction s with
     | nil=>rfl
     | cons b s B=>simp only[rj,aaD,aaH] at B |-;rw[B];rfl
    rw[J];refine AJ (by simp[byteCells]) λi c x e C=>?_;simp only[byteCells,aau,aai] at e C;obtain⟨b,K,rfl⟩:=e;obtain⟨L,D,rfl⟩:=C;rw[K] at D;cases D;simp only[ar]
def zzd{c:V}{fs:List (List V)}{x:Value}(h:ar M w c x)(a:c.elems?=some fs):∀f∈fs,∀d∈f,d.pure=true:=by
 cases c<;>simp only[V.elems?,aab.injEq,reduceCtorEq] at a<;>subst a
 case vs=>simp only[ar] at h;exact h.1
 case str =>
  intro f e d hd;obtain⟨b,_,rfl⟩:=abn.1 e;simp at hd;subst hd;rfl
def Wp(P:Program)(t a:TypeId)(sz bytes:Nat):Bool :=
 match elemOf? P t,(elemOf? P a).isSome||CF P a with
 | some b,true=>match P.info? b with
  | some i=>i.size==sz&&i.bytes==bytes&&decide (0<sz)&&decide (0<bytes)&&(match i.zero with|some z=>z.cells.size==sz|none=>false)
  | none=>false
 | _,_=>false
def zq5(z:Array Value)(k:Nat):(Builtin.zeroCells z k).size=k*z.size:=by simp[Builtin.zeroCells]
def znR(w:World)(t g ty h:TypeId)(i:TypeInfo)(l:P.underlying t=some (.slice h))(hi:P.info? h=some i)(b c f:Nat)(xs:Array Value)(te:TypeId)
  (m:w.heap[b]?=some (.cells xs te (0,0))) (x:Value) (k:Nat) (a:List Value) (e:Src P i.size g x k a w) (n:c+k<=f) (o:c*i.size+a.length<=xs.size) :
  (Builtin.append_ #[t,g] ty #[.slice (some ⟨b,0,none⟩) c f,x]).run P w =
   .ok (.slice (some ⟨b,0,none⟩) (c+k) f) (w.setRow b (xs.toList.take (c*i.size)++a++xs.toList.drop (c*i.size+a.length)).toArray):=by
 have d:=run_storeCells_at P b (c*i.size) te a 0 xs w m (by simpa using o) e.one;simp only[abH] at d
 rcases e.kind with⟨e',j⟩|j<;>simp[Builtin.append_,run_underlying l,run_underlying j,sizeOf,typeInfo,hi,e.len,n,e.cells,Addr.add_lit,d]
def zHE{t t':TypeId}{x y:Operand}{sx sy:X}{base s sz bytes:Nat}(ho:o.op=.call { callee:=.builtin .append,args:=#[x,y],argTypes:=#[t,t'] })
  (hx:aJ M.fm x sx=true) (hy:aJ M.fm y sy=true) (T:Wp P t t' sz bytes=true) (ht:bn M w e a n) (O:aI M w H)
  (D:aU base e H (.app s sz bytes sx sy)=some (v,H1)):dj P o a M H w v H1:=by
 have aS:=fQ hx ht;have eS:=fQ hy ht;unfold Wp at T;split at T
 case h_2=>cases T
 rename_i E iL M7;have K:=elemOf?_some iL
 have yp:(∃E,P.underlying t'=some (.slice E))\/P.underlying t'=some .string:=by
  simp only[ab5] at M7
  rcases M7 with h|h
  .obtain⟨hw,h⟩:=aaI.1 h;exact .inl ⟨_,elemOf?_some h⟩
  .exact .inr (CG h)
 split at T
 case h_2=>cases T
 rename_i i hi;simp only[aaa,beq_iff_eq,decide_eq_true_eq] at T;obtain⟨⟨⟨⟨Z,ju⟩,my⟩,M8⟩,hz⟩:=T;split at hz
 case h_2=>cases hz
 rename_i z U;simp only[beq_iff_eq] at hz
 have V:∀r w',(Builtin.append_ #[t,t'] o.type #[a.eval x,a.eval y]).run P w=.ok r w'->(execOp a.eval o).run P w=.ok (.value r) w':=by intro r w' h;simp only[execOp,ho,resolve,invoke,builtin,Sem.run_bind,Sem.run_pure,Result.andThen_ok,List.map_toArray,aaD,aaJ,h]
 simp only[aU] at D;split at D
 case h_2=>cases D
 rename_i f tk B hp Q;rw[hp] at aS;split at D
 .rename_i sm;cases D;subst sm;obtain⟨p,DK,hn⟩:=zAr (sz:=sz) yp eS Q ir;simp only[abb,ai] at hn;subst hn;have oB:=aS;simp only[ar] at oB;obtain⟨_,W,m,fz,hm,_⟩:=oB;have:=run_append_nothing (P:=P) w t t' o.type E i K hi W f.length m hm (a.eval y) (by rw[Z];exact DK);rw[<-fz] at this;exact .plain O (V _ _ this) aS
 rename_i sm;split at D
 case isFalse=>cases D
 rename_i hg;obtain⟨R,mw,iI⟩:=hg;obtain⟨p,DK,AV⟩:=zAr (sz:=sz) yp eS Q mw
 have mz:p.length=B.length*sz:=by rw[ik AV,xg mw]
 have xk:=zzd eS Q;have oB:=aS;simp only[ar] at oB;obtain⟨me,W,m,fz,hm,cH,S⟩:=oB;have hA:0<B.length:=List.length_pos_iff.2 sm
 have oD:∀e∈f++B,∀c∈e,c.pure=true:=by
  intro d hd c F;simp only[abx] at hd
  rcases hd with hd|hd
  .exact me d hd c F
  .exact xk d hd c F
 have aT:∀e∈f++B,e.length=sz:=by
  intro d hd;simp only[abx] at hd
  rcases hd with hd|hd
  .exact iI d hd
  .exact mw d hd
 have he:∃A:List Value,ai M w f.flatten A/\(Builtin.firstCells i.size f.length (.slice W f.length m)).run P w.drew=.ok A.toArray w.drew:=by
  cases W with
  | none =>
   obtain⟨yq,_⟩:=cH;subst yq
   exact⟨[],by simp only[abb,ai],by simp[Builtin.firstCells]⟩
  | some W =>
   obtain⟨b,hs,sp⟩:=W;obtain⟨ez,_,cH⟩:=cH
   by_cases AW:f=[]
   .subst AW;exact⟨[],by simp only[abb,ai],run_firstCells_some w.drew i.size 0 ⟨b,hs,sp⟩ 0 m [] ir (λj u K=>by simp at K)⟩
   have ez:=ez.resolve_left AW;simp only at ez cH;subst ez;obtain⟨xs,h1,h2⟩:=Rw cH;refine⟨xs,h1,?_⟩
   exact run_firstCells_some w.drew i.size f.length ⟨b,hs,none⟩ f.length m xs (by rw[ik h1,xg iI,Z]) (λj u K=>by
    rw[Addr.add_mid]
    exact h2 j u K)
 obtain⟨A,FI,M9⟩:=he
 have FJ:A.length=f.length*sz:=by rw[ik FI,xg iI]
 have G:∀id,(lJ H id=true\/∃k,H[id]?=some (some (.zone k)))->(M.al id=true->(M.z id).n<f.length+B.length)->m<f.length+B.length ->
   (execOp a.eval o).run P w=.ok (.value (.slice (some ⟨w.heap.size,0,none⟩) (f.length+B.length) (grownCap w (f.length+B.length) m E)))
    (w.drew.alloc (.cells ((A++p).toArray++Builtin.zeroCells z.cells (grownCap w (f.length+B.length) m E-(f.length+B.length))) E)) ->
   dj P o a M H w (.vs (f++B) (.own id)) (H.set id (some (.zone (f.length+B.length)))):=by
  intro id bM ah _ Y;have yr:=grownCap_ge w (f.length+B.length) m E;generalize hC:grownCap w (f.length+B.length) m E=C at yr Y
  have FK:(w.drew.alloc (.cells ((A++p).toArray++Builtin.zeroCells z.cells (C-(f.length+B.length))) E)).heap[w.heap.size]? =
    some (.cells ((A++p).toArray++Builtin.zeroCells z.cells (C-(f.length+B.length))) E (0,0)):=heap_alloc_new w.drew _
  have g:=(iR.drew w).trans (iR.alloc w.drew (.cells ((A++p).toArray++Builtin.zeroCells z.cells (C-(f.length+B.length))) E))
  obtain⟨st,ii,r⟩:=Wa (w':=w.drew.alloc (.cells ((A++p).toArray++Builtin.zeroCells z.cells (C-(f.length+B.length))) E)) (z:=⟨f.length+B.length,some w.heap.size,C,sz⟩) O bM g.os g.tape g.output g.size
   (λb I _=>g.block b I)
   (λb l k I _ _=>g.cell (O.gr ⟨id,I⟩))
   (λb I=>by simp only[aab.injEq] at I;omega)
   (λb l I iS _=>by simp only[aab.injEq] at iS;have:=O.gr ⟨id,I⟩;omega)
   (λha=>⟨by have:=ah ha;simp only;omega,λh=>by have:=ah ha;simp only at h;omega⟩)
   (by
    refine⟨by simp only;omega,yr,my,_,_,FK,?_⟩;simp only[Array.size_append,abT,aaF,zq5,hz,FJ,mz,<-aaY]
    congr 1
    omega)
  refine⟨_,_,_,Y,?_,st,ii,r⟩;simp only[ar];refine⟨oD,some ⟨w.heap.size,0,none⟩,C,ir,by simpa using yr,⟨.inr rfl,⟨sz,aT⟩,?_⟩,?_⟩
  .have va:=ai.step st O ii (zj FI AV);rw[<-abw] at va;refine Wo va ?_ ?_
   .intro j u K;have J:j<(A++p).length:=(aae.1 K).1;rw[cell_of_row _ w.heap.size (0+j) _ E (0,0) FK];rw[ab1,Array.getElem?_append];rw[if_pos (by simpa using J)];simpa using K
   .intro j J l N;simp only[Mm.mS,if_true,aab.injEq] at N;subst N;simp only[aaF,FJ,mz,<-aaY] at J;simp only[ab1];exact J
  .simp only[mr,Mm.mS,decide_true,aa7,if_true,true_and,aaF];exact⟨aah _,λ_=>aT⟩
 have AX:m<f.length+B.length->Builtin.nextslicecap (f.length+B.length) m*i.bytes<=281474976710656 ->
   (execOp a.eval o).run P w=.ok (.value (.slice (some ⟨w.heap.size,0,none⟩) (f.length+B.length) (grownCap w (f.length+B.length) m E)))
    (w.drew.alloc (.cells ((A++p).toArray++Builtin.zeroCells z.cells (grownCap w (f.length+B.length) m E-(f.length+B.length))) E)):=by
  intro F xj;refine V _ _ ?_
  have:=run_append_grow_src (P:=P) w t t' o.type E i z K hi U W f.length m A M9 (a.eval y) B.length p (by rw[Z];exact DK) F (by
   have:=ab4 (f.length+B.length) M8
   omega) xj
  rw[<-fz] at this;exact this
 have xj:m<f.length+B.length->Builtin.nextslicecap (f.length+B.length) m*i.bytes<=281474976710656:=λh=>growslice_fits h (by rw[ju];exact R)
 cases tk with
 | no=>cases D
 | full =>
  simp only at D;split at D
  case isFalse=>cases D
  rename_i hf;cases D;simp only[mr] at S
  have F:m<f.length+B.length:=an
  exact G _ (.inl hf) (λha=>by rw[Rk O hf] at ha;cases ha) F (AX F (xj F))
 | own q =>
  simp only at D;split at D
  case h_2=>cases D
  rename_i k Q;split at D
  case isFalse=>cases D
  rename_i L;cases D;subst L;simp only[mr] at S;obtain⟨dR,_,S⟩:=S;have I:=O.rel q _ Q;simp only[aM] at I;obtain⟨HK,I⟩:=I;obtain⟨kU,S⟩:=S HK.symm
  cases dG:(M.z q).cI with
  | none =>
   simp only[dG] at I S
   have F:m<f.length+B.length:=an
   exact G q (.inr ⟨_,Q⟩) (λ_=>by omega) F (AX F (xj F))
  | some b =>
   simp only[dG] at I S;obtain⟨vF,CH,Am,AR,xs,te,hh,g_⟩:=I;obtain⟨rfl,Rx⟩:=S
   by_cases vE:f.length+B.length<=m
   .have Wq:(M.z q).sz=sz:=by
     cases Kr:f with
     | nil=>rw[Kr] at vF;simp at vF
     | cons e0 hB=>rw[<-Rx e0 (by simp[Kr]),iI e0 (by simp[Kr])]
    have AY:f.length*sz+B.length*sz<=(M.z q).cap*sz:=by rw[<-aaY];exact aa_ _ an
    rw[Wq] at g_ AR;have Y:=znR (P:=P) w t t' o.type E i K hi b f.length m xs te hh (a.eval y) B.length p (by rw[Z];exact DK) vE (by rw[Z,mz,g_];exact AY);rw[<-fz] at Y;rw[Z] at Y;have yu:=setRow_heap w b xs (xs.toList.take (f.length*sz)++p++xs.toList.drop (f.length*sz+p.length)).toArray te (0,0) hh;generalize hY:(xs.toList.take (f.length*sz)++p++xs.toList.drop (f.length*sz+p.length)).toArray=ys at Y yu
    have M_:∀j,j<f.length*sz->ys[j]?=xs[j]?:=by intro j J;rw[<-hY];simp only[ace,abR];rw[aa1 (by simp;omega),aaE,if_pos J];simp
    have lK:aV M H q=some b:=by simp[aV,Q,dG]
    have j0:∀k,k≠b->(w.setRow b ys).heap[k]?=w.heap[k]?:=λk L=>setRow_other w b k ys (λe=>L e)
    have HL:∀j,j<f.length*sz->(w.setRow b ys).cell? ⟨b,j,none⟩=w.cell? ⟨b,j,none⟩:=by intro j J;rw[cell_of_row _ b j _ te (0,0) yu,cell_of_row _ b j _ te (0,0) hh,M_ j J]
    obtain⟨st,ii,r⟩:=Wa (w':=w.setRow b ys) (z:=⟨f.length+B.length,some b,m,sz⟩) O (.inr ⟨_,Q⟩) rfl rfl rfl (by simp[World.setRow])
     (λk _ az=>j0 k (λe=>az (by rw[lK,e])))
     (λk l j L N J=>by
      rw[lK] at L;cases L;rw[AR] at N;cases N
      exact HL j J)
     (λk L=>by simp only[aab.injEq] at L;subst L;exact .inr lK)
     (λk l L _ N=>by
      rw[lK] at L;cases L;rw[AR] at N;cases N
      exact aa_ _ (by simp only;omega))
     (λ_=>⟨by simp only;omega,λh=>by simp only at h;omega⟩)
     ⟨by simp only;omega,vE,my,ys,te,yu,by
      have Wu:xs.toList.length=m*sz:=by rw[aaU,g_,kU]
      rw[<-kU] at AY;rw[<-hY];simp only[abT,aaF,aaf,aas,Wu,mz];rw[aaQ an]
      omega⟩
    refine⟨_,_,_,V _ _ Y,?_,st,ii,r⟩;simp only[ar];refine⟨oD,some ⟨b,0,none⟩,m,ir,by simpa using vE,⟨.inr rfl,⟨sz,aT⟩,?_⟩,?_⟩
    .rw[V7];refine⟨?_,?_⟩
     .have:=cH.2.2;exact gE.step st O ii this
     .rw[xg iI];refine Wo (ai.step st O ii AV) ?_ ?_
      .intro j u K;have J:j<p.length:=(aae.1 K).1;rw[cell_of_row _ b _ _ te (0,0) yu,<-hY];simp only[ace,ab1]
       have ah:(xs.toList.take (f.length*sz)).length=f.length*sz:=by
        have Wu:xs.toList.length=(M.z q).cap*sz:=by rw[aaU,g_]
        rw[aaf,Wu];exact aaQ an
       rw[abR,abe (by rw[ah];omega),ah,Nat.add_sub_cancel_left,aa1 J];exact K
      .intro j J l N;simp only[Mm.mS,if_true,aab.injEq] at N;subst N;rw[mz] at J;simp only[aaY,ab1];omega
    .simp only[mr,Mm.mS,decide_true,aa7,if_true,true_and,aaF];exact⟨aah _,λ_=>aT⟩
   .have F:m<f.length+B.length:=an
    exact G q (.inr ⟨_,Q⟩) (λ_=>by omega) F (AX F (xj F))
variable {P:Program} {M M':Mm} {H H1:ae} {w w':World} {e:Env} {a:Act} {n:Nat} {o:Oper} {v:V}
def Mm.move(M:Mm)(id k:Nat):Mm :=
 { M with al:=λi=>decide (i=k)||M.al i,j:=λi=>if i=k then M.j id else M.j i,z:=λi=>if i=id then⟨1,none,1,0⟩ else if i=k then M.z id else M.z i }
def Mm.mB(M:Mm)(k:Nat)(z:Z):Mm:={ M with z:=λi=>if i=k then z else M.z i }
def zC6(c:aI M w H){k:Nat}(z:Z)(f:lJ H k=true):eH M H w (M.mB k z) H w/\e_ M (M.mB k z) H.length/\aI (M.mB k z) w H:=by
 have g:=Rk c f
 have bo:∀i,aV (M.mB k z) H i=aV M H i:=by
  intro i
  by_cases h:i=k
  .subst h;unfold aV;rw[u_.1 f]
  .unfold aV;simp only[Mm.mB,h,if_false]
 have a:eH M H w (M.mB k z) H w :=
  { eH.refl M H w with
   oj:=λ_ _ h=>h
   jy:=λ_ l _ h=>⟨l,h,aah _⟩
   limo:=λ_ _ _=>rfl
   own:=λb _ n=>by obtain⟨i,hi⟩:=n;rw[bo] at hi;exact⟨i,hi⟩
   fm:=rfl }
 have j:e_ M (M.mB k z) H.length:=λi _ hi=>by
  have d:i≠k:=λe=>by subst e;rw[g] at hi;cases hi
  simp only[Mm.mB,if_neg d];exact⟨hi,trivial,vz.refl _⟩
 refine⟨a,j,⟨c.si,λi b hi=>?_,λi o b d m=>?_,c.pa.step a c j⟩⟩
 .have d:i≠k:=λe=>by subst e;rw[u_.1 f] at hi;cases hi
  exact aM.step a c j hi (λb _=>⟨rfl,rfl⟩) (by simp only[Mm.mB,d,if_false])
 .rw[bo] at d m;exact c.inj i o b d m
def Mm.kill(M:Mm)(id:Nat):Mm:={ M with z:=λi=>if i=id then⟨1,none,1,0⟩ else M.z i }
def zAs{fs:List (List V)}(h:∀f∈fs,∀d∈f,d.pure=true):∀c∈fs.flatten,c.fC=true:=λc a=>by
 obtain⟨f,b,a⟩:=abu.1 a;exact V.cw (h f b c a)
def intOf?_some{c:V}{k:Int}(h:intOf? c=some k):∃kd,c=.int kd k:=by cases c<;>simp_all [intOf?]
def Ry{b:Option Operand}{xx:Option X}(h:oA M.fm b xx=true)(c:bn M w e a n):∀x,xx=some x->∀k,intOf? (x.ev e)=some k->∃u kd,b=some u/\a.eval u=.int kd k:=by
 intro x d k f;subst d;unfold oA at h;split at h
 .cases ‹some x=none›
 .rename_i u y g;cases g;obtain⟨kd,i⟩:=intOf?_some f;have:=fQ h c;rw[i] at this;simp only[ar] at this;exact⟨u,kd,rfl,this⟩
 .cases h
def Wv{a:Option Operand}{xx:Option X}(h:oA M.fm a xx=true)(b:xx=none):a=none:=by
 subst b;unfold oA at h
 split at h<;>simp_all
def Rz{isS:Bool}{len cap l h:Nat}{m:Bool}{lo hi mx:Option Operand}{f q smx:Option X}(z:oA M.fm lo f=true)(H:oA M.fm hi q=true)(K:oA M.fm mx smx=true)
  (I:bn M w e a n) (i:tC e len f q smx=some (l,h,m)) (Y:len<=cap) :
  l<=h/\h<=len/\(m=false->(smx=none/\(q=none->h=len))) /\
  (Instr.sliceBounds isS len cap (lo.map a.eval) (hi.map a.eval) (mx.map a.eval)).run P w=.ok (l,h,if m then h else cap) w:=by
 unfold tC at i;simp only at i;split at i
 case h_2=>cases i
 rename_i L r Z j s d;split at i
 case isFalse=>cases i
 rename_i hc;obtain⟨h1,h2,h3,h4,h5⟩:=hc;simp only[aab.injEq,abW.injEq] at i;obtain⟨rfl,rfl,rfl⟩:=i
 have N:∀(y:Nat) (b:BoundsCode),r.toNat<=y->∀u,lo=some u->(Instr.sliceBound (a.eval u) y b).run P w=.ok L.toNat w:=by
  intro y b hy u t
  cases c:f with
  | none=>have:=Wv z c;rw[this] at t;cases t
  | some x =>
   simp only[c] at j;obtain⟨T,kd,o,A⟩:=Ry z I x c L j;rw[t] at o;cases o;rw[A];exact run_sliceBound (P:=P) w kd L y b h1 an
 have U:∀(y:Nat) (b:BoundsCode),r.toNat<=y->∀u,hi=some u->(Instr.sliceBound (a.eval u) y b).run P w=.ok r.toNat w:=by
  intro y b hy u t
  cases c:q with
  | none=>have:=Wv H c;rw[this] at t;cases t
  | some x =>
   simp only[c] at s;obtain⟨T,kd,o,A⟩:=Ry H I x c r s;rw[t] at o;cases o;rw[A];exact run_sliceBound (P:=P) w kd r y b an an
 refine⟨an,an,?_,?_⟩
 .intro CI
  cases Z with
  | some v=>simp at CI
  | none =>
   cases c:smx with
   | none=>exact⟨rfl,λO=>by simp only[O,aab.injEq] at s;omega⟩
   | some x =>
    simp only[c,aai] at d;obtain⟨_,_,d⟩:=d;cases d
 .cases J:mx with
  | some um =>
   cases c:smx with
   | none=>have:=Wv K c;rw[this] at J;cases J
   | some x =>
    simp only[c,aai] at d;obtain⟨k,A,d⟩:=d;subst d;obtain⟨T,kd,o,B⟩:=Ry K I x c k A;rw[J] at o;cases o;have C:k=r:=h4 k rfl;subst C;have Q:q.isSome=true:=h5 (by simp[c]);obtain⟨xh,D⟩:=aaI.1 Q;simp only[D] at s;obtain⟨R,kh,S,C⟩:=Ry H I xh D k s;have V:=λb=>run_sliceBound (P:=P) w kd k cap b an an;have E:=U k.toNat .slice3B (aah _) R S
    cases p:lo with
    | none =>
     have:f=none:=by
      cases g:f with
      | none=>rfl
      | some x=>simp[p,g,oA] at z
     simp only[this,aab.injEq] at j;subst j
     simp[Instr.sliceBounds,S,B,V,E]
    | some F =>
     have G:=N k.toNat .slice3C (aah _) F p
     simp[Instr.sliceBounds,S,B,V,E,G]
  | none =>
   have AZ:smx=none:=by
    cases g:smx with
    | none=>rfl
    | some x=>simp[J,g,oA] at K
   simp only[AZ,aab.injEq] at d;subst d
   cases W:hi with
   | none =>
    have Q:q=none:=by
     cases g:q with
     | none=>rfl
     | some x=>simp[W,g,oA] at H
    simp only[Q,aab.injEq] at s;subst s
    cases p:lo with
    | none =>
     have:f=none:=by
      cases g:f with
      | none=>rfl
      | some x=>simp[p,g,oA] at z
     simp only[this,aab.injEq] at j;subst j
     simp[Instr.sliceBounds]
    | some F =>
     have G:=N len .sliceB an F p
     simp[Instr.sliceBounds,G]
   | some R =>
    have E:=λb=>U cap b an R W
    cases p:lo with
    | none =>
     have:f=none:=by
      cases g:f with
      | none=>rfl
      | some x=>simp[p,g,oA] at z
     simp only[this,aab.injEq] at j;subst j
     simp[Instr.sliceBounds,E]
    | some F =>
     have G:=N r.toNat .sliceB (aah _) F p;simp[Instr.sliceBounds,E,G]
def zxd{b off l k sz:Nat}{es:List (List V)}(h:gE M w b es off)(d:∀e∈es,e.length=sz)(f:l<=es.length):gE M w b ((es.drop l).take k) (off+l*sz):=by
 have c:gE M w b (es.drop l) (off+l*sz):=by
  have a:=h;rw[<-abp l es,V7] at a
  have:(es.take l).flatten.length=l*sz:=by rw[xg (sz:=sz) (λe g=>d e (aak g)),aaf,aaQ f]
  rw[this] at a;exact a.2
 rw[<-abp k (es.drop l),V7] at c;exact c.1
def zHF{t J:TypeId}{x:Operand}{K:X}{lo hi mx:Option Operand}{L N smx:Option X}{base sz:Nat}{i:TypeInfo}(Y:o.op=.slice t x lo hi mx)(Z:aJ M.fm x K=true)
  (oC:elemOf? P t=some J) (qS:P.info? J=some i) (dD:i.size=sz) (O:oA M.fm lo L=true) (Q:oA M.fm hi N=true) (R:oA M.fm mx smx=true)
  (B:bn M w e a n) (S:aI M w H) (f:aU base e H (.slc sz K L N smx)=some (v,H1)):dj P o a M H w v H1:=by
 have u:=fQ Z B;have hu:=elemOf?_some oC
 have T:∀(g:Option Addr) (r c l h mm:Nat),a.eval x=.slice g r c->(Instr.sliceBounds true r c (lo.map a.eval) (hi.map a.eval) (mx.map a.eval)).run P w=.ok (l,h,mm) w ->
   (execOp a.eval o).run P w=.ok (.value (.slice (if mm=l then g else g.map (·.add (l*sz))) (h-l) (mm-l))) w:=by
  intro g r c l h mm h1 h2;simp[execOp,Y,h1,Instr.sliceAt,Instr.slice,run_underlying hu,h2,sizeOf,typeInfo,qS,dD]
 simp only[aU] at f;split at f
 .rename_i y tk C;split at f
  case h_2=>cases f
  rename_i l h m D;split at f
  case isFalse=>cases f
  rename_i U;cases f;rw[C] at u;simp only[ar] at u;obtain⟨me,g,c,E,s,z,eI⟩:=u;obtain⟨F,V,hm,G⟩:=Rz (P:=P) (w:=w) (isS:=true) O Q R B D s;refine .plain S (T g y.length c l h _ E G) ?_
  have p:((y.drop l).take (h-l)).length=h-l:=by rw[aaf,aas];omega
  have CJ:h<=(if m=true then h else c):=by split<;>omega
  simp only[ar]
  refine⟨λd hd=>me d (aao (aak hd)),(if(if m=true then h else c)=l then g else g.map (·.add (l*sz))),(if m=true then h else c)-l,by rw[p],by rw[p];omega,?_,?_⟩
  .by_cases q:(if m=true then h else c)=l
   .rw[if_pos q]
    have h0:(y.drop l).take (h-l)=[]:=by rw[show h-l=0 by omega];simp
    rw[h0]
    cases g with
    | none=>exact⟨rfl,an⟩
    | some g=>exact⟨.inl rfl,⟨0,ir⟩,by simp only[gE]⟩
   .rw[if_neg q]
    cases g with
    | none =>
     exfalso;obtain⟨yq,RB⟩:=z;subst yq;simp only[aby] at V;apply q
     split<;>omega
    | some g =>
     obtain⟨b,I,sp⟩:=g;obtain⟨A,_,z⟩:=z
     by_cases W:y=[]
     .subst W;exact⟨.inl ir,⟨0,ir⟩,by simp[gE]⟩
     have A:=A.resolve_left W;simp only at A z;subst A;simp only[abi,Addr.add_lit];exact⟨.inr trivial,⟨sz,λd hd=>U d (aao (aak hd))⟩,zxd z U an⟩
  .by_cases j:m=true\/tk=.full/\h=y.length
   .rw[if_pos j];simp only[mr,p]
    rcases j with j|⟨j,he⟩
    .rw[if_pos j]
    .subst j;simp only[mr] at eI
     split<;>omega
   .rw[if_neg j];trivial
 .rename_i id I k hf C;split at f
  case h_2=>cases f
  rename_i l h m D;split at f
  case isFalse=>cases f
  rename_i j;cases f;rw[C] at u;simp only[ar] at u;obtain⟨ha,c,E,s⟩:=u;obtain⟨F,V,hm,G⟩:=Rz (P:=P) (w:=w) (isS:=true) O Q R B D s;refine .plain S (T _ k c l h _ E G) ?_
  have CJ:h<=(if m=true then h else c):=by split<;>omega
  simp only[ar];refine⟨ha,(if m=true then h else c)-l,?_,an⟩
  congr 1
  by_cases q:(if m=true then h else c)=l
  .rw[if_pos q]
   have:l=0:=by
    rcases j with j|⟨j,CI⟩
    .exact j
    .rw[CI] at q;simp at q;omega
   subst this;simp
  .rw[if_neg q];simp[Addr.add_lit]
 .cases f
def zAt(vs:List Value)(off:Nat):∀(k:Nat) (cs:Array Value),off+k+vs.length<=cs.size ->
  ((vs.zipIdx k).foldl (λcs (c:Value×Nat)=>cs.setIfInBounds (off+c.2) c.1) cs).toList=cs.toList.take (off+k)++vs++cs.toList.drop (off+k+vs.length):=by
 induction vs with
 | nil=>intro k cs _;simp
 | cons v vs a =>
  intro k cs h;simp only[List.zipIdx_cons,ab6,abg] at h |-;rw[a (k+1) _ (by simp;omega)];simp only[Array.toList_setIfInBounds]
  have b:off+k<cs.toList.length:=by simp;omega
  have d:(cs.toList.set (off+k) v).take (off+(k+1))=cs.toList.take (off+k)++[v]:=by rw[show off+(k+1)=off+k+1 by omega,List.take_succ_eq_append_getElem (by simpa using b),List.take_set_of_le (aah _)];simp
  have e:(cs.toList.set (off+k) v).drop (off+(k+1)+vs.length)=cs.toList.drop (off+k+(vs.length+1)):=by
   rw[List.drop_set_of_lt an]
   congr 1
   omega
  rw[d,e];simp
def uy(fm:Fm)(a:Nat->Option (Nat×Nat)):List (Nat×Operand)->List (Nat×Nat×X)->Bool
 | [],[]=>true
 | (i,x)::c,(b,d,e)::qs=>(match a i with|some (f,g)=>f==b&&g==d|none=>false)&&aJ fm x e&&uy fm a c qs
 | _,_=>false
def Wx{d:Nat->Option (Nat×Nat)}(o:bn M w e a n):∀{ps:List (Nat×Operand)} {qs:List (Nat×Nat×X)} {cs ds:List V} {xs:Array Value},
  uy M.fm d ps qs=true->ow e cs qs=some ds->ai M w cs xs.toList->(∀c∈cs,c.fC=true) ->
  ∃ys,Instr.fill d xs (ps.map λp=>(p.1,a.eval p.2))=some ys/\ai M w ds ys.toList/\∀c∈ds,c.fC=true
 | [],[],cs,ds,xs,_,f,h,k=>by
  simp only[ow,aab.injEq] at f;subst f
  exact⟨xs,rfl,h,k⟩
 | [],_::_,_,_,_,b,_,_,_=>by simp[uy] at b
 | _::_,[],_,_,_,b,_,_,_=>by simp[uy] at b
 | (i,x)::ps,(z,H,I)::qs,cs,ds,xs,b,f,h,k=>by
  simp only[uy,aaa] at b;obtain⟨⟨l,A⟩,b⟩:=b;split at l
  case h_2=>cases l
  rename_i g q B;simp only[aaa,beq_iff_eq] at l;obtain⟨rfl,rfl⟩:=l;simp only[ow] at f;split at f
  case h_2=>cases f
  rename_i r C;split at f
  case isFalse=>cases f
  rename_i j;obtain⟨s,D⟩:=Wf (fQ A o) C;have E:=ik s;have t:=ik h
  have u:(a.eval x).cells.size=q:=by rw[<-aaU,E,j.1]
  have v:=zAt (a.eval x).cells.toList g 0 xs (by simp at t |-;omega);simp only[abH,aaU,u] at v
  have y:ai M w (cs.take g++r++cs.drop (g+r.length)) (xs.toList.take g++(a.eval x).cells.toList++xs.toList.drop (g+q)):=by rw[j.1];exact zj (zj (wJ h _) s) (yl h _)
  rw[<-v] at y
  obtain⟨ys,F,G,m⟩:=Wx o b f y (λc b=>by
   simp only[abx] at b
   rcases b with(b|b)|b
   .exact k c (aak b)
   .exact D c b
   .exact k c (aao b))
  refine⟨ys,?_,G,m⟩;simp only[aaD,Instr.fill,B];rw[if_neg]
  .have J:(a.eval x).cells.zipIdx.foldl (λcs (c:Value×Nat)=>cs.setIfInBounds (g+c.2) c.1) xs=((a.eval x).cells.toList.zipIdx 0).foldl (λcs (c:Value×Nat)=>cs.setIfInBounds (g+c.2) c.1) xs:=by rw[<-ack,Array.toList_zipIdx]
   rw[<-F]
   congr 1
  .simp only[ab5,decide_eq_true_eq,not_or];simp at t;exact⟨by simp[u],an⟩
def Kv(P:Program)(t:TypeId)(i:Nat):Option (Nat×Nat) :=
 match P.underlying t with
 | some (.struct b)=>match b[i]? with
  | some f=>match P.info? f.type with
   | some a=>some (f.offset,a.size)
   | none=>none
  | none=>none
 | some (.array _ c)=>match P.info? c with
  | some a=>some (i*a.size,a.size)
  | none=>none
 | _=>none
def Wy(P:Program)(t:TypeId):Bool :=
 match P.underlying t with
 | some (.struct a)=>a.all λf=>(P.info? f.type).isSome
 | some (.array _ b)=>(P.info? b).isSome
 | _=>false
def Nc(f:Field):Sem (Nat×Nat):=do pure (f.offset,<-sizeOf f.type)
def zzg{f:Field}{a:TypeInfo}(h:P.info? f.type=some a):(Nc f).run P w=.ok (f.offset,a.size) w:=by simp[Nc,sizeOf,typeInfo,h]
def zlc:∀fs:List Field,(∀f∈fs,(P.info? f.type).isSome=true)->(fs.mapM Nc).run P w =
  .ok (fs.map λf=>(f.offset,((P.info? f.type).map (·.size)).getD 0)) w
 | [],_=>by simp
 | f::fs,h=>by
  obtain⟨b,a⟩:=aaI.1 (h f ir);rw[List.mapM_cons,Sem.run_bind,zzg a,Result.andThen_ok,Sem.run_bind,zlc fs (λg c=>h g (by simp[c])),Result.andThen_ok];simp[a]
def zqc{fs:Array Field}(h:fs.all (λf=>(P.info? f.type).isSome)=true):(fs.mapM Nc).run P w =
  .ok (fs.toList.map λf=>(f.offset,((P.info? f.type).map (·.size)).getD 0)).toArray w:=by
 rw[Array.mapM_eq_mapM_toList,Sem.run_map,zlc fs.toList (λf a=>(abC.1 h) f (by simpa using a))];rfl
def zC7{t:TypeId}{ps:Array (Nat×Operand)}{z:List V}{qs:List (Nat×Nat×X)}{base:Nat}{i:TypeInfo}{j:Value}(x:o.op=.build t ps)
  (hi:P.info? t=some i) (y:i.zero=some j) (A:sK j.cells.toList z=true) (d:Wy P t=true) (D:uy M.fm (Kv P t) ps.toList qs=true)
  (E:bn M w e a n) (F:aI M w H) (l:aU base e H (.build z qs)=some (v,H1)):dj P o a M H w v H1:=by
 simp only[aU] at l;split at l
 case h_2=>cases l
 rename_i Q G;cases l;obtain⟨g,B,I,J⟩:=Wx (w:=w) E D G (FG A) (λc K=>V.cw (HI A c K));refine .plain (rv:=.agg g) F ?_ (by simp only[ar];exact⟨J,g.toList,ir,I⟩)
 have C:(ps.map λp=>(p.1,a.eval p.2)).toList=ps.toList.map λp=>(p.1,a.eval p.2):=by simp
 unfold Wy at d;split at d
 .rename_i m h
  have r:(λk=>((m.toList.map λf=>(f.offset,((P.info? f.type).map (·.size)).getD 0))[k]?))=Kv P t:=by
   funext k
   simp only[Kv,h,aau];rw[aaj]
   cases L:m[k]? with
   | none=>rfl
   | some f =>
    have N:=Array.mem_of_getElem? L;have:=(abC.1 d) f N;obtain⟨b,q⟩:=aaI.1 this;simp[q]
  have O:=zqc (P:=P) (w:=w) d
  have s:Instr.fill (λk=>(m.toList.map λf=>(f.offset,((P.info? f.type).map (·.size)).getD 0)).toArray[k]?) j.cells (ps.map λp=>(p.1,a.eval p.2)).toList=some g:=by
   rw[C,<-B,<-r]
   congr 1
   funext k
   simp
  have u:(Instr.build t (ps.map λp=>(p.1,a.eval p.2))).run P w=.ok (.agg g) w:=by unfold Instr.build;simp only[Sem.run_bind,zeroValue,typeInfo,run_program,hi,y,Sem.run_pure,Result.andThen_ok,run_underlying h];change ((m.mapM Nc).run P w).andThen _=_;rw[O,Result.andThen_ok];simp only[s,Sem.run_pure]
  simp only[execOp,x,Sem.run_bind,Sem.run_pure];change (Result.andThen ((Instr.build t (ps.map λp=>(p.1,a.eval p.2))).run P w) _)=_;rw[u];rfl
 .rename_i k R h;obtain⟨b,q⟩:=aaI.1 d
  have r:(λk=>some (k*b.size,b.size))=Kv P t:=by
   funext k
   simp[Kv,h,q]
  have s:Instr.fill (λk=>some (k*b.size,b.size)) j.cells (ps.map λp=>(p.1,a.eval p.2)).toList=some g:=by rw[C,r];exact B
  have u:(Instr.build t (ps.map λp=>(p.1,a.eval p.2))).run P w=.ok (.agg g) w:=by unfold Instr.build;simp only[Sem.run_bind,zeroValue,typeInfo,run_program,hi,y,Sem.run_pure,Result.andThen_ok,run_underlying h,sizeOf,q,s]
  simp only[execOp,x,Sem.run_bind,Sem.run_pure];change (Result.andThen ((Instr.build t (ps.map λp=>(p.1,a.eval p.2))).run P w) _)=_;rw[u];rfl
 .cases d
def zFS{t k:TypeId}{x:Operand}{p:X}{lo hi:Option Operand}{q r:Option X}{base sz len:Nat}{i:TypeInfo}(y:o.op=.slice t x lo hi none)(z:aJ M.fm x p=true)
  (A:arrOf? P t=some (len,k)) (B:P.info? k=some i) (C:i.size=sz) (D:oA M.fm lo q=true) (E:oA M.fm hi r=true)
  (s:bn M w e a n) (F:aI M w H) (c:aU base e H (.xf len sz p q r)=some (v,H1)):dj P o a M H w v H1:=by
 have d:=fQ z s;have G:=arrOf?_some A;simp only[aU] at c;split at c
 case h_2=>cases c
 rename_i l h m b;split at c
 case h_2=>cases c
 rename_i id f I;split at c
 case isFalse=>cases c
 rename_i N;cases c;rw[I] at d;simp only[ar] at d;obtain⟨J,O,Q,g⟩:=Rz (P:=P) (w:=w) (isS:=false) (mx:=none) D E rfl s b (aah len)
 have K:m=false:=by
  unfold tC at b;simp only at b;split at b
  case h_2=>cases b
  split at b
  case isFalse=>cases b
  rename_i u _;simp only[aab.injEq,abW.injEq] at b;simp only[aab.injEq] at u;rw[<-b.2.2,<-u];rfl
 subst K;simp only[aap,if_false] at g
 have L:¬len=l:=an
 refine .plain (rv:=.slice (some ⟨M.j id,f+l*sz,none⟩) (h-l) (len-l)) F ?_ (by simp only[ar];exact⟨d.1,len-l,rfl,an⟩);simp only[ab7] at g;simp[execOp,y,d.2,Instr.sliceAt,Instr.sureAddr,run_underlying G,g,sizeOf,typeInfo,B,C,L,Addr.add_lit]
def Wz{α:Type}(z:List α):∀(k i:Nat),i<k*z.length->(aan k z).flatten[i]?=z[i%z.length]?
 | 0,i,h=>by simp at h
 | k+1,i,h=>by
  rw[abI,aaH]
  by_cases hi:i<z.length
  .rw[aa1 hi,Nat.mod_eq_of_lt hi]
  .rw[abe an,Wz z k (i-z.length) (by rw[aaY,abj] at h;omega),Nat.mod_eq_sub_mod (by omega:i≥z.length)]
def zq6{sz:Nat}:∀{qs:List (Nat×X)} {es fs:List (List V)},(∀e∈es,e.length=sz)->(∀f∈es,∀c∈f,c.pure=true)->AM e sz es qs=some fs ->
  ow e es.flatten (qs.map λq=>(q.1*sz,sz,q.2))=some fs.flatten/\fs.length=es.length/\(∀e∈fs,e.length=sz)/\(∀f∈fs,∀c∈f,c.pure=true)
 | [],es,fs,b,g,h=>by
  simp only[AM,aab.injEq] at h;subst h
  exact⟨rfl,rfl,b,g⟩
 | (i,x)::qs,es,fs,b,g,h=>by
  simp only[AM] at h;split at h
  case h_2=>cases h
  rename_i ds j;split at h
  case isFalse=>cases h
  rename_i k;obtain⟨hi,d,l⟩:=k
  have m:∀e∈es.set i ds,e.length=sz:=by
   intro f a
   rcases abV a with a|rfl
   .exact b f a
   .exact d
  have n:∀f∈es.set i ds,∀c∈f,c.pure=true:=by
   intro f a
   rcases abV a with a|rfl
   .exact g f a
   .exact abD.1 l
  obtain⟨o,p,r,s⟩:=zq6 m n h;refine⟨?_,by rw[p];simp,r,s⟩;simp only[aaD,ow,j];have t:=xg b
  have u:i*sz+sz<=es.length*sz:=by have:(i+1)*sz<=es.length*sz:=aa_ _ hi;rw[aaY,abj] at this;exact this
  rw[if_pos ⟨d,by rw[t,d];exact u⟩]
  have v:(es.set i ds).flatten=es.flatten.take (i*sz)++ds++es.flatten.drop (i*sz+ds.length):=by
   have w:es=es.take i++es[i]::es.drop (i+1):=by rw[List.getElem_cons_drop,abp]
   have y:(es.take i).flatten.length=i*sz:=by rw[xg (sz:=sz) (λf a=>b f (aak a)),aaf,aaQ an]
   have z:es[i].length=sz:=b _ (ab0 hi)
   have A:es.set i ds=es.take i++ds::es.drop (i+1):=List.set_eq_take_append_cons_drop▸by rw[if_pos hi]
   rw[A]
   have B:es.flatten=(es.take i).flatten++(es[i]++(es.drop (i+1)).flatten):=by have:=congrArg List.flatten w;rw[abw,aaH] at this;exact this
   rw[B];simp only[abw,aaH];rw[<-y,List.take_left,d,<-z,List.drop_append,];simp
  rw[<-v];exact o
def zFT{z:List V}{a:Array Value}(h:sK a.toList z=true)(n:0<z.length)(k:Nat) :
  ai M w (aan k z).flatten ((abM (k*z.length)).map (λj=>a[j%a.size]!)).toList:=by
 have i:a.size=z.length:=by have:=ik (FG (M:=M) (w:=w) h);simpa using this
 refine AJ ?_ λj c x d b=>?_
 .rw[xg (sz:=z.length) (λf e=>by rw[aaG e])];simp
 .have l:j<k*z.length:=by have:=(aae.1 d).1;rw[xg (sz:=z.length) (λf e=>by rw[aaG e]),abF] at this;exact this
  rw[Wz z k j l] at d;obtain⟨o,g,p⟩:=ou (FG (M:=M) (w:=w) h) d
  have m:j%z.length<a.size:=by rw[i];exact acP _ n
  have:x=o:=by simp only[acy,acm,aau] at b;rw[ach l] at b;simp only[abi,aab.injEq] at b;rw[<-b,i];rw[getElem!_pos a _ m];simp only[aaj] at g;rw[aa2 m] at g;simpa using g
  rw[this];exact p
def zFU{t h:TypeId}{l c:Operand}{m:X}{s base bytes:Nat}{z:List V}{i:TypeInfo}{b:Value}(D:o.op=.makeSlice t l c)(E:aJ M.fm l m=true)(d:aJ M.fm c m=true)
  (F:elemOf? P t=some h) (hi:P.info? h=some i) (G:i.size=z.length) (I:i.bytes=bytes) (J:0<bytes) (K:0<z.length) (L:i.zero=some b) (y:sK b.cells.toList z=true)
  (A:bn M w e a n) (N:aI M w H) (g:aU base e H (.qt s bytes z m)=some (v,H1)):dj P o a M H w v H1:=by
 have O:=elemOf?_some F;have p:=fQ E A;have q:=fQ d A;simp only[aU] at g;split at g
 case h_2=>cases g
 rename_i kd k Q;split at g
 case isFalse=>cases g
 rename_i R;obtain⟨u,B,x⟩:=R;cases g;rw[Q] at p q;simp only[ar] at p q;have W:k.toNat<=140737488355328:=abm (ab4 _ J) x
 have S:(i.bytes:Int)*k<=281474976710656:=by
  rw[I]
  have Y:((k.toNat*bytes:Nat):Int)=(bytes:Int)*k:=by rw[Int.natCast_mul,Int.toNat_of_nonneg B,Int.mul_comm]
  omega
 have C:=run_make (P:=P) w t h i b O hi L kd kd k k B (Int.le_refl _) S an
 have T:madeCells b.cells (k.toNat*i.size)=(abM (k.toNat*z.length)).map (λj=>b.cells[j%b.cells.size]!):=by rw[G];rfl
 rw[T] at C
 obtain⟨st,U,r⟩:=Rl (t:=h) N u (zFT y K k.toNat) (λc d=>by
  obtain⟨f,u,d⟩:=abu.1 d;rw[aaG u] at d
  exact V.cw (HI y c d))
 refine⟨.value (.slice (some ⟨w.heap.size,0,none⟩) k.toNat k.toNat),_,_,?_,?_,st,U,r⟩
 .simp only[execOp,D,p,q,Sem.run_bind,Sem.run_pure,C,Result.andThen_ok]
 .simp only[ar,Mm.i_,decide_true,aa7,if_true,true_and];exact⟨k.toNat,rfl,aah _⟩
def ztn{t el:TypeId}{k:Nat}{ps:Array (Nat×Operand)}{z:List V}{qs:List (Nat×X)}{i:TypeInfo}{zv:Value}(ho:o.op=.buildSlice t k ps)
  (oC:elemOf? P t=some el) (hi:P.info? el=some i) (dD:i.size=z.length) (vI:0<z.length) (hk:k*z.length<=16777216) (hz:i.zero=some zv) (nR:sK zv.cells.toList z=true)
  (hp:uy M.fm (λj=>some (j*z.length,z.length)) ps.toList (qs.map λq=>(q.1*z.length,z.length,q.2))=true)
  (ht:bn M w e a n) {cs:List V} (h1:ow e (aan k z).flatten (qs.map λq=>(q.1*z.length,z.length,q.2))=some cs) :
  ∃ys:Array Value,(execOp a.eval o).run P w=.ok (.value (.slice (some ⟨w.heap.size,0,none⟩) k k)) (w.alloc (.cells ys el))/\ai M w cs ys.toList/\∀c∈cs,c.fC=true:=by
 have hu:=elemOf?_some oC;have WA:=HI nR
 have tD:zv.cells.size=z.length:=by have:=ik (FG (M:=M) (w:=w) nR);simpa using this
 have Ng:ai M w (aan k z).flatten ((abM (k*i.size)).map (λj=>zv.cells[j%zv.cells.size]!)).toList:=by
  refine AJ ?_ λj c x hc hx=>?_
  .rw[xg (sz:=z.length) (λf hf=>by rw[aaG hf])];simp[dD]
  .have hj:j<k*z.length:=by have:=(aae.1 hc).1;rw[xg (sz:=z.length) (λf hf=>by rw[aaG hf]),abF] at this;exact this
   rw[Wz z k j hj] at hc;obtain⟨x',aS,he⟩:=ou (FG (M:=M) (w:=w) nR) hc
   have hm:j%z.length<zv.cells.size:=by rw[tD];exact acP _ vI
   have:x=x':=by simp only[acy,acm,aau,dD] at hx;rw[ach hj] at hx;simp only[abi,aab.injEq] at hx;rw[<-hx,tD];rw[getElem!_pos zv.cells _ hm];simp only[aaj] at aS;rw[aa2 hm] at aS;simpa using aS
   rw[this];exact he
 obtain⟨ys,hf,hy,yx⟩:=Wx (w:=w) ht hp h1 Ng (λc hc=>by
  obtain⟨f,hf,hc⟩:=abu.1 hc;rw[aaG hf] at hc
  exact V.cw (WA c hc))
 have bV:(execOp a.eval o).run P w=.ok (.value (.slice (some ⟨w.heap.size,0,none⟩) k k)) (w.alloc (.cells ys el)):=by
  have qx:(ps.map λp=>(p.1,a.eval p.2)).toList=ps.toList.map λp=>(p.1,a.eval p.2):=by simp
  have hb:(Instr.buildSlice t k (ps.map λp=>(p.1,a.eval p.2))).run P w=.ok (.slice (some ⟨w.heap.size,0,none⟩) k k) (w.alloc (.cells ys el)):=by
   unfold Instr.buildSlice;rw[<-qx] at hf;simp only[Sem.run_bind,run_underlying hu,Result.andThen_ok,sizeOf,typeInfo,run_program,hi,Sem.run_pure];rw[if_neg (by rw[dD];omega)]
   have cM:∀xs:Array Value,Instr.fill (λWB=>some (WB*i.size,i.size)) xs (ps.map λp=>(p.1,a.eval p.2)).toList=some ys ->
     Sem.run P (match Instr.fill (λWB=>some (WB*i.size,i.size)) xs (ps.map λp=>(p.1,a.eval p.2)).toList with
      | some cells=>(do pure (.slice (some (<-newRow el cells)) k k):Sem Value)
      | _ => stuck "buildSlice: a part of the wrong size") w = .ok (.slice (some ⟨w.heap.size, 0, none⟩) k k) (w.alloc (.cells ys el)) := by
    intro xs hx;rw[hx];simp[newRow]
   by_cases WD:k*i.size=0
   .rw[if_pos WD]
    have g_:(abM (k*i.size)).map (λj=>(#[]:Array Value)[j%(#[]:Array Value).size]!)=(abM (k*i.size)).map (λj=>zv.cells[j%zv.cells.size]!):=by apply abc;rw[WD];simp
    rw[Sem.run_bind,Sem.run_pure,Result.andThen_ok];refine cM _ ?_;rw[g_];simpa[dD] using hf
   .rw[if_neg WD];simp only[Sem.run_bind,zeroValue,typeInfo,run_program,hi,hz,Sem.run_pure,Result.andThen_ok];refine cM _ ?_;simpa[dD] using hf
  simp only[execOp,ho,Sem.run_bind,Sem.run_pure];change (Result.andThen ((Instr.buildSlice t k (ps.map λp=>(p.1,a.eval p.2))).run P w) _)=_;rw[hb];rfl
 exact⟨ys,bV,hy,yx⟩
def zq7{t b:TypeId}{k:Nat}{ps:Array (Nat×Operand)}{z:List V}{qs:List (Nat×X)}{i:TypeInfo}{g:Value}(m:o.op=.buildSlice t k ps)
  (p:elemOf? P t=some b) (hi:P.info? b=some i) (r:i.size=z.length) (s:0<z.length) (u:k*z.length<=16777216) (v:i.zero=some g) (h:sK g.cells.toList z=true)
  (x:uy M.fm (λj=>some (j*z.length,z.length)) ps.toList (qs.map λq=>(q.1*z.length,z.length,q.2))=true)
  (y:bn M w e a n) {es:List (List V)} (A:AM e z.length (aan k z) qs=some es) :
  ∃ys:Array Value,(execOp a.eval o).run P w=.ok (.value (.slice (some ⟨w.heap.size,0,none⟩) k k)) (w.alloc (.cells ys b))/\ai M w es.flatten ys.toList/\es.length=k/\(∀f∈es,f.length=z.length)/\(∀f∈es,∀c∈f,c.pure=true):=by
 have B:=HI h;obtain⟨C,l,D,E⟩:=zq6 (λf d=>by rw[aaG d]) (λf d=>by rw[aaG d];exact B) A;rw[abF] at l;obtain⟨ys,F,G,_⟩:=ztn m p hi r s u v h x y C;exact⟨ys,F,G,l,D,E⟩
def zAu{t b:TypeId}{k base:Nat}{ps:Array (Nat×Operand)}{z:List V}{qs:List (Nat×X)}{i:TypeInfo}{d:Value}(m:o.op=.buildSlice t k ps)
  (p:elemOf? P t=some b) (hi:P.info? b=some i) (s:i.size=z.length) (x:0<z.length) (y:k*z.length<=16777216) (A:i.zero=some d) (B:sK d.cells.toList z=true)
  (C:uy M.fm (λj=>some (j*z.length,z.length)) ps.toList (qs.map λq=>(q.1*z.length,z.length,q.2))=true)
  (D:bn M w e a n) (f:aI M w H) (c:aU base e H (.bslice k z qs)=some (v,H1)):dj P o a M H w v H1:=by
 simp only[aU] at c;split at c
 case h_2=>cases c
 rename_i O E;cases c;obtain⟨F,G,I,g,J,K⟩:=zq7 m p hi s x y A B C D E;obtain⟨st,h,r⟩:=MX (M':=M.jy w.heap.size none) f (iR.alloc w (.cells F b)) (Same.jy M _ _);refine⟨_,_,_,G,?_,st,h,r⟩;simp only[ar];refine⟨K,some ⟨w.heap.size,0,none⟩,k,by rw[g],an,⟨.inr rfl,⟨z.length,J⟩,?_⟩,by simp only[mr];exact g.symm⟩;refine Wo (ai.step st f h I) ?_ ?_
 .intro j u L;rw[cell_of_row _ w.heap.size (0+j) _ b (0,0) (heap_alloc_new w _)];simpa using L
 .intro j _ l N;simp[Mm.jy] at N
def zzh{t c:TypeId}{k base s:Nat}{ps:Array (Nat×Operand)}{z:List V}{qs:List (Nat×X)}{i:TypeInfo}{h:Value}(C:o.op=.buildSlice t k ps)
  (D:elemOf? P t=some c) (hi:P.info? c=some i) (E:i.size=z.length) (F:0<z.length) (G:k*z.length<=16777216) (I:i.zero=some h) (J:sK h.cells.toList z=true)
  (K:uy M.fm (λj=>some (j*z.length,z.length)) ps.toList (qs.map λq=>(q.1*z.length,z.length,q.2))=true)
  (L:bn M w e a n) (l:aI M w H) (b:aU base e H (.jO s k z qs)=some (v,H1)):dj P o a M H w v H1:=by
 simp only[aU] at b;split at b
 case h_2=>cases b
 rename_i m N;split at b
 case isFalse=>cases b
 rename_i p;cases b;obtain⟨d,O,f,r,u,Q⟩:=zq7 C D hi E F G I J K L N
 have x:d.size=k*z.length:=by rw[<-aaU,ik f,xg u,r]
 have R:m.flatten.length=k*z.length:=by rw[xg u,r]
 obtain⟨y,A,B⟩:=zC6 l ⟨0,none,k,z.length⟩ p
 obtain⟨S,T,U⟩:=MY (ob:=.cells d c) (blk0:=.grow m.flatten z.length true) B p rfl λg W=>by
  simp only[aM];refine⟨zAs Q,by simp[Mm.i_],by simp[Mm.i_,Mm.mB],by simp[Mm.i_,Mm.mB],d,c,?_,by simp[Mm.i_,Mm.mB,x],?_,λ_=>by rw[x,R]⟩
  .simp only[Mm.i_,if_true];exact heap_alloc_new w _
  .rw[zu7 f];exact ai.step g B W (ai.step y l A f)
 refine⟨_,_,_,O,?_,y.trans S,A.trans T (aah _),U⟩;simp only[ar];exact⟨by simp[Mm.i_],k,by simp[Mm.i_,Mm.mB],aah _,λ_=>by simp[Mm.i_,Mm.mB]⟩
def RC{sz:Nat}:∀{k:Nat} {cs:List V},k*sz<=cs.length->(qa sz k cs).flatten=cs.take (k*sz)/\(qa sz k cs).length=k/\∀e∈qa sz k cs,e.length=sz/\∀c∈e,c∈cs
 | 0,cs,_=>by simp[qa]
 | k+1,cs,h=>by
  rw[aaY,abj] at h;obtain⟨d,f,b⟩:=RC (sz:=sz) (k:=k) (cs:=cs.drop sz) (by rw[aas];omega);refine⟨?_,by simp[qa,f],?_⟩
  .simp only[qa,aaH,d];rw[aaY,abj,Nat.add_comm,List.take_add]
  .intro e he;simp only[qa,acF] at he
   rcases he with rfl|he
   .exact⟨by rw[aaf];omega,λc a=>aak a⟩
   .exact⟨(b e he).1,λc a=>aao ((b e he).2 c a)⟩
def zFV{t Y:TypeId}{x:Operand}{Z:X}{base:Nat}(z:o.op=.convert t t x)(hx:aJ M.fm x Z=true)(hs:P.underlying t=some (.slice Y))(iL:P.underlying Y=some (.int .u8))
  (ht:bn M w e a n) (q:aI M w H) (r:aU base e H (.mark Z)=some (v,H1)):dj P o a M H w v H1:=by
 have F:=fQ hx ht;simp only[aU] at r;split at r
 case h_2=>cases r
 rename_i id k hp;split at r
 case h_2=>cases r
 rename_i cs sz G;split at r
 case isFalse=>cases r
 rename_i A;obtain⟨rfl,rfl,I⟩:=A;cases r;have I:=abD.1 I;rw[hp] at F;simp only[ar] at F;obtain⟨dR,B,fz,J,K⟩:=F;have cU:=q.rel id _ G;simp only[aM] at cU;obtain⟨yx,L,N,Rx,xs,O,hh,g_,hE,Q⟩:=cU;have kU:=K N;have yy:=Q trivial;rw[acI,<-kU] at g_;have ah:id<H.length:=(aae.1 G).1;have lL:xs.toList.take cs.length=xs.toList:=ab_ (by rw[aaU,yy];exact aah _);rw[lL] at hE;obtain⟨w',C⟩:=bb (w.freeze ⟨M.j id,xs.size,none⟩ 1)
 have R:∀b,b≠M.j id->w'.heap[b]?=w.heap[b]?:=λb D=>by
  rw[C];simp only[World.freeze];rw[if_neg ah9];simp only[abt];rw[if_neg (λh=>D h.symm)]
 have nb:w'.heap[M.j id]?=some (.cells xs O (xs.size,xs.size+1)):=by rw[C];simp only[World.freeze];rw[if_neg ah9];simp only[abt,if_true,hh];rfl
 have dD:w'.heap.size=w.heap.size:=by rw[C];simp only[World.freeze];rw[if_neg ah9];simp only[Array.size_modify]
 have S:w'.os=w.os/\w'.tape=w.tape/\w'.output=w.output:=by rw[C];simp only[World.freeze];rw[if_neg ah9];exact⟨rfl,rfl,rfl⟩
 have fM:w.shape? (M.j id)=some (O,xs.size):=by simp[World.shape?,hh]
 have bV:(execOp a.eval o).run P w=.ok (.value (.slice (some ⟨M.j id,0,none⟩) cs.length B)) w':=by rw[C];simp[execOp,z,fz,convert,run_underlying hs,run_underlying iL,markStringish,fM]
 obtain⟨m,f⟩:=bb ((M.kill id).cK (M.j id) cs.length)
 have T:aV M H id=some (M.j id):=by simp[aV,G]
 have s:(H.set id (some (ay.zone 1)))[id]?=some (some (.zone 1)):=aaq ah
 have U:aV m (H.set id (some (.zone 1))) id=none:=by rw[f];unfold aV;rw[s];simp[Mm.kill,Mm.cK]
 have bo:∀i,i≠id->aV m (H.set id (some (.zone 1))) i=aV M H i:=by intro i h;rw[f];unfold aV;rw[getElem?_set_ne h];simp only[Mm.kill,Mm.cK,h,if_false]
 have u:∀i b,aV m (H.set id (some (.zone 1))) i=some b->i≠id/\aV M H i=some b:=by
  intro i b hi
  by_cases h:i=id
  .subst h;rw[U] at hi;cases hi
  .rw[bo i h] at hi;exact⟨h,hi⟩
 have p:eH M H w m (H.set id (some (.zone 1))) w':={
  os:=S.1
  tape:=S.2.1
  output:=S.2.2
  size:=by rw[dD];exact aah _
  same:=λb _ z=>R b λe=>z ⟨id,by rw[T,e]⟩
  cells:=λb l o _ g z=>by
   by_cases e:b=M.j id
   .subst e;rw[L] at g;cases g;omega
   .exact World.cell?_of_block (w:=w) (R b e)
  oj:=λb _ g=>by
   rw[f];simp only[Mm.cK,Mm.kill]
   rw[if_neg];· exact g
   intro e;subst e;rw[L] at g;cases g
  jy:=λb l' _ g=>by
   rw[f];simp only[Mm.cK,Mm.kill]
   by_cases e:b=M.j id
   .subst e;rw[L] at g;cases g;exact⟨cs.length,ir,ab9 _⟩
   .exact⟨l',by rw[if_neg e];exact g,aah _⟩
  limo:=λb _ z=>by
   rw[f];simp only[Mm.cK,Mm.kill];rw[if_neg];intro e;exact z ⟨id,by rw[T,e]⟩
  own:=λb _ HN=>by obtain⟨i,hi⟩:=HN;exact⟨i,(u i b hi).2⟩
  fm:=by rw[f];rfl }
 have E:e_ M m H.length:=λi _ hi=>by
  rw[f];refine⟨hi,rfl,?_⟩;simp only[Mm.kill,Mm.cK];split
  .rename_i d;subst d;exact⟨by simp[N],λh=>by simp[N] at h⟩
  .exact vz.refl _
 have hR:aI m w' (H.set id (some (.zone 1))):=by
  refine⟨λi=>?_,λi b hi=>?_,λi i' b V d=>q.inj i i' b (u i b V).2 (u i' b d).2,q.pa.step p q E⟩
  .by_cases d:i=id
   .subst d;rw[f];simp only[Mm.kill,Mm.cK,dR,true_iff];exact⟨_,s⟩
   .rw[getElem?_set_ne d,f];exact q.si i
  .by_cases d:i=id
   .subst d;rw[s] at hi;cases hi;rw[f];simp[aM,Mm.kill,Mm.cK]
   .rw[getElem?_set_ne d] at hi;refine aM.step p q E hi (λb jB=>?_) (by rw[f];simp only[Mm.kill,Mm.cK,d,if_false]);have D:b≠M.j id:=λe=>d (q.inj i id b jB (by rw[T,e]));exact⟨R b D,by rw[f];simp only[Mm.cK,Mm.kill];rw[if_neg D]⟩
 refine⟨_,_,m,bV,?_,p,E,hR⟩;obtain⟨V,d,h3⟩:=RC (sz:=1) (k:=cs.length) (cs:=cs) an;simp only[ar];refine⟨λe W c A=>I c ((h3 e W).2 c A),some ⟨M.j id,0,none⟩,B,by rw[d],by rw[d];exact J,⟨.inr rfl,⟨1,λe W=>(h3 e W).1⟩,?_⟩,?_⟩
 .rw[Kl,V,ab_ an];refine DG λi c A=>?_;obtain⟨y,hy,WE⟩:=ou (ai.step p q E hE) A;refine⟨y,?_,λl g=>?_,WE⟩
  .rw[cell_of_row w' (M.j id) (0+i) xs O _ nb];simpa using hy
  .rw[f] at g;simp only[Mm.cK,if_true,aab.injEq] at g;have:=(aae.1 A).1;show(0:Nat)+i<l;omega
 .simp only[mr,d];omega
def zzi{t c:TypeId}{k base sp:Nat}{ps:Array (Nat×Operand)}{z:List V}{qs:List (Nat×X)}{i:TypeInfo}{d:Value}(f:o.op=.buildSlice t k ps)
  (g:elemOf? P t=some c) (hi:P.info? c=some i) (h:i.size=z.length) (l:0<z.length) (m:k*z.length<=16777216) (p:i.zero=some d) (s:sK d.cells.toList z=true)
  (u:uy M.fm (λj=>some (j*z.length,z.length)) ps.toList (qs.map λq=>(q.1*z.length,z.length,q.2))=true)
  (x:bn M w e a n) (y:aI M w H) (b:aU base e H (.bsliceR sp k z qs)=some (v,H1)):dj P o a M H w v H1:=by
 simp only[aU] at b;split at b
 case isFalse=>cases b
 rename_i A;split at b
 case h_2=>cases b
 rename_i ds B;cases b;obtain⟨G,C,D,E⟩:=ztn f g hi h l m p s u x B;obtain⟨st,F,r⟩:=Rl (t:=c) y A D E;refine⟨_,_,_,C,?_,st,F,r⟩;simp only[ar,Mm.i_,decide_true,aa7,if_true,true_and];exact⟨k,rfl,aah _⟩
def zFW{c:V}{ds:List V}{x:Value}{sz:Nat}(E:aI M w H)(B:0<sz)(h:ar M w c x)(l:Ri H sz c=some ds)(k:Nat)(o:k<=ds.length/sz) :
  (Builtin.lenOf x).run P w=.ok (ds.length/sz) w/\(∀d∈ds,d.fC=true)/\∃xs:List Value,(Builtin.firstCells sz k x).run P w=.ok xs.toArray w/\ai M w (ds.take (k*sz)) xs/\xs.length=k*sz:=by
 have F:k*sz<=ds.length:=abm (aa_ _ o) (Nat.div_mul_le_self _ _)
 cases c<;>simp only[Ri,reduceCtorEq] at l
 case vs es tk =>
  split at l
  case isFalse=>cases l
  rename_i t;cases l
  have t:∀e∈es,e.length=sz:=λe r=>by have:=abD.1 t e r;simpa using this
  have G:=xg t
  have i:es.flatten.length/sz=es.length:=by rw[G];exact acn _ B
  rw[i] at o |-;simp only[ar] at h;obtain⟨I,v,n,rfl,J,p,_⟩:=h
  refine⟨by simp[Builtin.lenOf],λd hd=>by
   obtain⟨f,K,hd⟩:=abu.1 hd
   exact V.cw (I f K d hd),?_⟩
  cases v with
  | none =>
   obtain⟨rfl,rfl⟩:=p
   have:k=0:=by simpa using o
   subst this
   exact⟨[],by simp[Builtin.firstCells],by simp[ai],ir⟩
  | some v =>
   obtain⟨b,a,sp⟩:=v;obtain⟨s,_,p⟩:=p
   by_cases L:k=0
   .subst L;exact⟨[],run_firstCells_some w sz 0 ⟨b,a,sp⟩ es.length n [] ir (λj u g=>by simp at g),by simp[ai],ir⟩
   have N:es≠[]:=by rintro rfl;simp at o;omega
   have s:=s.resolve_left N;simp only at s p;subst s;obtain⟨xs,C,O⟩:=Rw p;have y:=ik C;have z:=wJ C (k*sz)
   refine⟨xs.take (k*sz),run_firstCells_some w sz k ⟨b,a,none⟩ es.length n (xs.take (k*sz)) (by rw[aaf];omega) (λj u g=>by
    rw[Addr.add_mid];rw[aaE] at g;split at g
    .exact O j u g
    .cases g),z,by rw[aaf];omega⟩
 case rs id a m zo =>
  split at l
  case h_2=>cases l
  rename_i A Q;split at l
  case isFalse=>cases l
  rename_i U;cases l
  have q:((A.drop a).take (m*sz)).length=m*sz:=by rw[aaf,aas];omega
  have i:((A.drop a).take (m*sz)).length/sz=m:=by rw[q];exact acn _ B
  rw[i] at o |-;simp only[ar] at h;obtain⟨_,n,rfl,J⟩:=h;have D:=E.rel id _ Q;simp only[aM] at D;obtain⟨R,_,xs,S,T,r⟩:=D;have y:=ik r;have z:=wJ (wJ (yl r a) (m*sz)) (k*sz);have W:k*sz<=m*sz:=aa_ _ o
  refine⟨by simp[Builtin.lenOf],λd hd=>R d (aao (aak hd)),_,run_firstCells_some w sz k ⟨M.j id,a,none⟩ m n ((((xs.toList.take A.length).drop a).take (m*sz)).take (k*sz)) (by
   rw[aaf,aaf,aas,y];omega) (λj u g=>by
    rw[Addr.add_mid,cell_of_row w (M.j id) (a+j) xs S (0,0) T];rw[aaE] at g;split at g
    .rw[aaE] at g;split at g
     .rw[abh] at g;exact Rr g
     .cases g
    .cases g),z,by rw[aaf,aaf,aas,y];omega⟩
def zHG{t t' D:TypeId}{x y:Operand}{E F:X}{base sz:Nat}{i:TypeInfo}(Q:o.op=.call { callee:=.builtin .copy,args:=#[x,y],argTypes:=#[t,t'] })
  (R:aJ M.fm x E=true) (S:aJ M.fm y F=true) (T:elemOf? P t=some D) (hi:P.info? D=some i) (U:i.size=sz) (G:bn M w e a n) (u:aI M w H)
  (g:aU base e H (.FC sz E F)=some (v,H1)):dj P o a M H w v H1:=by
 have z:=fQ R G;have V:=fQ S G;have W:=elemOf?_some T;simp only[aU] at g;split at g
 case h_2=>cases g
 rename_i id b m zo Y;split at g
 case h_2=>cases g
 rename_i h ds I Z;split at g
 case isFalse=>cases g
 rename_i d;obtain⟨ha,hz⟩:=d;cases g;rw[Y] at z;simp only[ar] at z;obtain⟨_,hf,fz,kU⟩:=z;obtain⟨k,q⟩:=bb (min (ds.length/sz) m);rw[<-q]
 have Kw:k<=m:=by rw[q];exact Nat.min_le_right _ _
 obtain⟨l,J,xs,xm,A,B⟩:=zFW (P:=P) u hz V Z k (by rw[q];exact Nat.min_le_left _ _);have K:=u.rel id _ I;simp only[aM] at K;obtain⟨L,_,f,te,N,C⟩:=K;have j4:=ik C;have im:k*sz<=m*sz:=aa_ _ Kw;have WG:=ik A;have rC:=zu8 A (λc d=>J c (aak d))
 have O:h.length<=f.toList.length:=by rw[aaf] at j4;omega
 have hg:h.length<=f.size:=by simpa using O
 have p:=run_storeCells_at P (M.j id) b te xs 0 f w N (by rw[B];omega) rC;simp only[abH] at p
 obtain⟨s,ii,r⟩:=V_ (ds:=h.take b++ds.take (k*sz)++h.drop (b+k*sz)) u I N (ys:=(f.toList.take b++xs++f.toList.drop (b+xs.length)).toArray)
  (by
   rw[show(h.take b++ds.take (k*sz)++h.drop (b+k*sz)).length=h.length by simp only[aaF,aaf,aas] at WG |-;omega];simp only[];rw[zq3 O (by rw[B];omega)];refine zj (zj (wJ C b) A) ?_;rw[B]
   exact yl C _)
  (λc d=>by
   simp only[abx] at d
   rcases d with(d|d)|d
   .exact L c (aak d)
   .exact J c (aak d)
   .exact L c (aao d))
 refine⟨.value (.int .i64 k),_,_,?_,by simp only[ar],s,ii,r⟩;have WH:Nat.min (ds.length/sz) m=k:=q.symm;simp[execOp,Q,resolve,invoke,builtin,fz,Builtin.copy_,run_underlying W,l,WH,sizeOf,typeInfo,hi,U,xm,p,goInt]
def fU(P:Program)(t:TypeId):Bool:=match P.underlying t with|some d=>d.isRow|none=>false
def Kx(p:TypeId->Option (List Kd)):Nat->List Field->Option (List Kd)
 | _,[]=>some []
 | off, f :: fs => if f.name ≠ "_" ∧ f.offset = off then
   match p f.type with
   | some ks=>match Kx p (off+ks.length) fs with
    | some rs=>some (ks++rs)
    | none=>none
   | none=>none
  else none
def vb(P:Program):Nat->TypeId->Option (List Kd)
 | 0,_=>none
 | k+1,t =>
  match(match P.underlying t with
   | some (.int _)=>some [Kd.int]
   | some .bool=>some [Kd.bool]
   | some .string=>some [Kd.str]
   | some (.struct b)=>if P.stoodInHeld t=false then Kx (vb P k) 0 b.toList else none
   | some (.array m c)=>match vb P k c with
    | some a=>some (aan m a).flatten
    | none=>none
   | _=>none) with
  | some a=>if ix P t a.length (fU P t)=true then some a else none
  | none=>none
def WI{k:Nat}{t:TypeId}{ks:List Kd}(h:vb P k t=some ks):ix P t ks.length (fU P t)=true:=by
 cases k with
 | zero=>simp[vb] at h
 | succ k =>
  simp only[vb] at h;split at h
  .split at h
   .rename_i a;cases h;exact a
   .cases h
  .cases h
def Kz:∀{ks:List Kd} {cs ds:List V} {b:Bool},cG ks cs ds=some b->cs.length=ks.length/\ds.length=ks.length
 | [],[],[],_,_=>⟨rfl,rfl⟩
 | [],[],_::_,_,h=>by simp[cG] at h
 | [],_::_,_,_,h=>by simp[cG] at h
 | _::_,[],_,_,h=>by simp[cG] at h
 | _::_,_::_,[],_,h=>by simp[cG] at h
 | k::ks,c::cs,d::ds,b,h=>by
  simp only[cG] at h;split at h
  .rename_i x y e a;have:=Kz a;simp[this.1,this.2]
  .cases h
def Nh:∀{ks rs:List Kd} {cs ds:List V} {b:Bool},cG (ks++rs) cs ds=some b ->
  ∃x y,cG ks (cs.take ks.length) (ds.take ks.length)=some x/\cG rs (cs.drop ks.length) (ds.drop ks.length)=some y/\b=(x&&y)
 | [],rs,cs,ds,b,h=>⟨true,b,by simp[cG],by simpa using h,ir⟩
 | k::ks,rs,[],_,b,h=>by simp[cG] at h
 | k::ks,rs,_::_,[],b,h=>by simp[cG] at h
 | k::ks,rs,c::cs,d::ds,b,h=>by
  simp only[acx,cG] at h;split at h
  .rename_i x y a e;obtain⟨f,g,i,j,rfl⟩:=Nh e;simp only[aab.injEq] at h;refine⟨x&&f,g,?_,by simpa using j,by rw[<-h,Bool.and_assoc]⟩;simp only[abg,List.take_succ_cons,cG,a,i]
  .cases h
def DO(P:Program)(d:Nat)(t:TypeId)(ks:List Kd):Prop :=
 ∀(M:Mm) (w a:World) (c ds:List V) (xs e:List Value) (b:Bool),ai M w c xs->ai M w ds e->cG ks c ds=some b ->
  (Op.equalIn d t (pH (fU P t) xs) (pH (fU P t) e)).run P a=.ok b a
def KA{t:TypeId}{sz off:Nat}{a:Bool}{xs:List Value}(b:ix P t sz a=true)(c:off+sz<=xs.length) :
  (part t xs.toArray off).run P w=.ok (pH a ((xs.drop off).take sz)) w:=by
 have:=Wm (P:=P) (w:=w) (xs:=xs.toArray) b (by simpa using c);simpa using this
def zpM{d:Nat}{p:TypeId->Option (List Kd)}(i:∀t ks,p t=some ks->ix P t ks.length (fU P t)=true/\DO P d t ks):∀{fs:List Field} {off:Nat} {ks:List Kd} {cs ds:List V} {xs ys:List Value} {b:Bool} {M:Mm} {w w2:World},
  Kx p off fs=some ks->ai M w cs xs->ai M w ds ys->off<=xs.length->off<=ys.length->cG ks (cs.drop off) (ds.drop off)=some b->(Op.eqFields d xs.toArray ys.toArray fs).run P w2=.ok b w2
 | [],off,ks,cs,ds,xs,ys,b,M,w,w2,a,c,e,m,n,h=>by
  simp only[Kx,aab.injEq] at a;subst a
  have:b=true:=by
   cases o:cs.drop off<;>cases hd:ds.drop off<;>rw[o,hd] at h<;>simp[cG] at h
   exact h
  subst this
  simp[Op.eqFields]
 | f::fs,off,ks,cs,ds,xs,ys,b,M,w,w2,a,c,e,m,n,h=>by
  simp only[Kx] at a;split at a
  case isFalse=>cases a
  rename_i q;obtain⟨r,s⟩:=q;split at a
  case h_2=>cases a
  rename_i j u;split at a
  case h_2=>cases a
  rename_i rs v;cases a;obtain⟨k,g⟩:=i _ _ u;obtain⟨x,y,l,z,rfl⟩:=Nh h;have G:=ik c;have H:=ik e;obtain⟨A,B⟩:=Kz l;simp only[aaf,aas] at A B;have C:=KA (P:=P) (w:=w2) (off:=off) (xs:=xs) k an;have D:=KA (P:=P) (w:=w2) (off:=off) (xs:=ys) k an;have E:=g M w w2 _ _ _ _ x (wJ (yl c off) j.length) (wJ (yl e off) j.length) l;have F:=zpM (w2:=w2) i v c e an an (by simpa[abJ] using z)
  simp only[Op.eqFields,s];rw[if_pos r];simp only[Sem.run_bind,C,D,E,Result.andThen_ok];cases x
  .simp
  .simpa using F
def zq8{d:Nat}{c:TypeId}{ks:List Kd}(g:ix P c ks.length (fU P c)=true)(a:DO P d c ks):∀{m off:Nat} {cs ds:List V} {xs ys:List Value} {b:Bool} {M:Mm} {w w2:World},
  ai M w cs xs->ai M w ds ys->off*ks.length<=xs.length->off*ks.length<=ys.length->cG (aan m ks).flatten (cs.drop (off*ks.length)) (ds.drop (off*ks.length))=some b ->
  (Op.eqItems d c ks.length xs.toArray ys.toArray (acw off m)).run P w2=.ok b w2
 | 0,off,cs,ds,xs,ys,b,M,w,w2,e,f,j,k,h=>by
  simp only[List.replicate_zero,abb] at h
  have:b=true:=by
   cases l:cs.drop (off*ks.length)<;>cases hd:ds.drop (off*ks.length)<;>rw[l,hd] at h<;>simp[cG] at h
   exact h
  subst this
  simp[Op.eqItems]
 | m+1,off,cs,ds,xs,ys,b,M,w,w2,e,f,j,k,h=>by
  rw[abI,aaH] at h;obtain⟨x,y,i,n,rfl⟩:=Nh h;have v:=ik e;have z:=ik f;obtain⟨o,p⟩:=Kz i;simp only[aaf,aas] at o p;have q:=KA (P:=P) (w:=w2) (off:=off*ks.length) (xs:=xs) g an;have r:=KA (P:=P) (w:=w2) (off:=off*ks.length) (xs:=ys) g an;have s:=a M w w2 _ _ _ _ x (wJ (yl e _) ks.length) (wJ (yl f _) ks.length) i
  have t:(off+1)*ks.length=off*ks.length+ks.length:=by rw[aaY,abj]
  have u:=zq8 (w2:=w2) (m:=m) (off:=off+1) g a e f an an (by rw[t];simpa[abJ] using n);rw[acz];simp only[Op.eqItems,Sem.run_bind,q,r,s,Result.andThen_ok];cases x
  .simp
  .simpa using u
def WJ:∀{k:Nat} {t:TypeId} {ks:List Kd} {d:Nat},vb P k t=some ks->k<=d->DO P d t ks
 | 0,t,ks,d,h,_=>by simp[vb] at h
 | k+1,t,ks,0,h,hd=>by omega
 | k+1,t,ks,d+1,h,hd=>by
  have T:=WI h;have q:∀t ks,vb P k t=some ks->ix P t ks.length (fU P t)=true/\DO P d t ks:=λt ks h=>⟨WI h,WJ h an⟩;simp only[vb] at h;split at h
  case h_2=>cases h
  rename_i H e;split at h
  case isFalse=>cases h
  cases h;intro M w p I ds xs A b r s n;obtain⟨J,K⟩:=Kz n;have U:=ik r;have V:=ik s
  have o:∀{kd:Kd},ks=[kd]->∃c d x y,I=[c]/\ds=[d]/\xs=[x]/\A=[y]/\ar M w c x/\ar M w d y/\qP kd c d=some b:=by
   intro kd L;subst L;obtain⟨c,rfl⟩:=aca.1 J;obtain⟨d',rfl⟩:=aca.1 K;simp only[ai] at r s;obtain⟨x,_,rfl,j,rfl⟩:=r;obtain⟨y,_,rfl,f,rfl⟩:=s;refine⟨c,d',x,y,rfl,rfl,rfl,rfl,j,f,?_⟩;simp only[cG] at n;split at n
   .rename_i u v a D;simp only[aab.injEq] at D n;subst D;rw[a,<-n,Bool.and_true]
   .cases n
  split at e
  .rename_i W a
   have l:fU P t=false:=by simp[fU,a,TypeDesc.isRow]
   simp only[aab.injEq] at e;obtain⟨c,d',x,y,rfl,rfl,rfl,rfl,j,f,g⟩:=o e.symm;rw[l]
   cases c<;>cases d'<;>simp only[qP,reduceCtorEq] at g
   split at g
   .rename_i N;subst N;simp only[aab.injEq] at g;subst g;simp only[ar] at j f;subst j;subst f;exact run_equalIn_int p d t _ _ _ _ a
   .cases g
  .rename_i a
   have l:fU P t=false:=by simp[fU,a,TypeDesc.isRow]
   simp only[aab.injEq] at e;obtain⟨c,d',x,y,rfl,rfl,rfl,rfl,j,f,g⟩:=o e.symm;rw[l]
   cases c<;>cases d'<;>simp only[qP,reduceCtorEq,aab.injEq] at g
   subst g;simp only[ar] at j f;subst j;subst f;exact run_equalIn_bool p d t _ _ a
  .rename_i a
   have l:fU P t=false:=by simp[fU,a,TypeDesc.isRow]
   simp only[aab.injEq] at e;obtain⟨c,d',x,y,rfl,rfl,rfl,rfl,j,f,g⟩:=o e.symm;rw[l]
   cases c<;>cases d'<;>simp only[qP,reduceCtorEq,aab.injEq] at g
   subst g;simp only[ar] at j f;subst j;subst f;show(Op.equalIn (d+1) t (.string _) (.string _)).run P p=_;rw[run_equalIn_string p d t _ _ a];simp
  .rename_i O a
   have l:fU P t=true:=by simp[fU,a,TypeDesc.isRow]
   split at e
   case isFalse=>cases e
   rename_i B;rw[l]
   have E:P.fieldsOf t=O:=by simp[Program.fieldsOf,a]
   have:=run_equalIn_struct (P:=P) p d t xs.toArray A.toArray (by rw[E];exact a) B;simp only[pH,if_true];rw[this,E];exact zpM q e r s (ab9 _) (ab9 _) (by simpa using n)
  .rename_i m F a
   have l:fU P t=true:=by simp[fU,a,TypeDesc.isRow]
   split at e
   case h_2=>cases e
   rename_i Q R;simp only[aab.injEq] at e;rw[l];obtain⟨G,C⟩:=q _ _ R;have z:=G;unfold ix at z;split at z
   case h_2=>cases z
   rename_i _ i X hi;simp only[aaa,beq_iff_eq] at z
   have S:P.cellsOf F=Q.length:=by
    have:=run_sizeOf (P:=P) w hi
    have f:(sizeOf F).run P w=.ok i.size w:=by simp[sizeOf,typeInfo,hi]
    rw[f] at this;simp only[Result.ok.injEq,and_true] at this;rw[<-this];exact z.1
   have:=run_equalIn_array (P:=P) p d xs.toArray A.toArray a hi;simp only[pH,if_true];rw[this,S,List.range_eq_range'];exact zq8 G C r s ir ir (by rw[e];simpa using n)
  .cases e
def zHH{c s:TypeId}{x y:Operand}{k l:X}{base:Nat}{neg:Bool}{ks:List Kd}(m:o.op=.binOp (if neg then .neq else .eql) c x y s)(t:aJ M.fm x k=true)(u:aJ M.fm y l=true)
  (z:vb P 20 c=some ks) (p:P.eqGuardType P.depth c=false) (A:fU P c=true) (q:bn M w e a n) (B:aI M w H) (f:aU base e H (.Hw ks neg k l)=some (v,H1)):dj P o a M H w v H1:=by
 have i:=fQ t q;have j:=fQ u q;simp only[aU] at f;split at f
 case h_2=>cases f
 rename_i C ds D E;split at f
 case h_2=>cases f
 rename_i b F;cases f;rw[D] at i;rw[E] at j;simp only[ar] at i j;obtain⟨_,xs,r,G⟩:=i;obtain⟨_,I,g,J⟩:=j;have h:=WJ (P:=P) (d:=10000) z an M w w C ds xs I b G J F;rw[A] at h;simp only[pH,if_true] at h;refine .plain (rv:=.bool (if neg then !b else b)) B ?_ (by simp only[ar]);cases neg
 .simp only[execOp,m,r,g,Sem.run_bind,aap,if_false,run_eqGuard_agg w _ c x y _ _ p,Result.andThen_ok,run_eql_struct,h];rfl
 .simp only[execOp,m,r,g,Sem.run_bind,if_true,run_eqGuard_agg w _ c x y _ _ p,Result.andThen_ok,run_neq_struct,h];rfl
def WL(P:Program)(k:Nat)(t:TypeId)(y:Operand):Bool :=
 match k,P.underlying t,y with
 | 0,some (.func _ _ _),.const .nilFunc=>true
 | 1,some (.pointer _),.const (.pointer none)=>true
 | 2,some (.map _ _),.const (.map none)=>true
 | _,_,_=>false
def zAv(d:Nat){t:TypeId}{p q:Array TypeId}{r:Bool}(a:P.underlying t=some (.func p q r))(f:Fn)(g h:Array Value):(Op.equalIn (d+1) t (.func f g h) .nilFunc).run P w=.ok false w:=by simp[Op.equalIn,run_underlying a]
def zxe(d:Nat){t:TypeId}{p q:Array TypeId}{r:Bool}(a:P.underlying t=some (.func p q r)):(Op.equalIn (d+1) t .nilFunc .nilFunc).run P w=.ok true w:=by simp[Op.equalIn,run_underlying a]
def zxf(d:Nat){t p:TypeId}(a:P.underlying t=some (.pointer p)):(Op.equalIn (d+1) t (.pointer none) (.pointer none)).run P w=.ok true w:=by simp[Op.equalIn,run_underlying a]
def zq9(d:Nat){t p:TypeId}(a:P.underlying t=some (.pointer p))(b:Addr):(Op.equalIn (d+1) t (.pointer (some b)) (.pointer none)).run P w=.ok false w:=by simp[Op.equalIn,run_underlying a]
def zzk(d:Nat){t p q:TypeId}(a:P.underlying t=some (.map p q))(b:Nat):(Op.equalIn (d+1) t (.map (some b)) (.map none)).run P w=.ok false w:=by simp[Op.equalIn,run_underlying a]
def zxg(d:Nat){t p q:TypeId}(a:P.underlying t=some (.map p q)):(Op.equalIn (d+1) t (.map none) (.map none)).run P w=.ok true w:=by simp[Op.equalIn,run_underlying a]
def HT{c l:TypeId}{x y:Operand}{e f:Value}{b neg:Bool}(g:o.op=.binOp (if neg then .neq else .eql) c x y l)(h:a.eval x=e)(i:a.eval y=f)(m:aI M w H)
  (j:∀op,(eqGuard op c x y e f).run P w=.ok () w) (n:binOp .eql c e f=(do pure (.bool (<-Op.equal c e f)))) (p:binOp .neq c e f=(do pure (.bool (!(<-Op.equal c e f)))))
  (q:∀d,(Op.equalIn (d+1) c e f).run P w=.ok b w):dj P o a M H w (.bool (if neg then !b else b)) H:=by
 have k:(Op.equal c e f).run P w=.ok b w:=q 9999;refine .plain (rv:=.bool (if neg then !b else b)) m ?_ (by simp only[ar]);cases neg
 .simp only[execOp,g,h,i,Sem.run_bind,aap,if_false,j,Result.andThen_ok,n,k,Sem.run_pure]
 .simp only[execOp,g,h,i,Sem.run_bind,if_true,j,Result.andThen_ok,p,k,Sem.run_pure]
def zC8{r s:TypeId}{x y:Operand}{m:X}{base k:Nat}{neg:Bool}(f:o.op=.binOp (if neg then .neq else .eql) r x y s)(t:aJ M.fm x m=true)
  (p:WL P k r y=true) (u:bn M w e a n) (g:aI M w H) (j:aU base e H (.p_ k neg m)=some (v,H1)):dj P o a M H w v H1:=by
 have c:=fQ t u
 have l:neg=(if neg=true then !false else false):=by cases neg<;>rfl
 have q:(!neg)=(if neg=true then !true else true):=by cases neg<;>rfl
 unfold WL at p;split at p
 case h_4=>cases p
 all_goals
  rename_i h;simp only[aU] at j
  cases z:m.ev e<;>rw[z] at j c<;>simp only[reduceCtorEq,aab.injEq,abW.injEq] at j
  all_goals
   obtain⟨rfl,rfl⟩:=j;simp only[ar] at c
 .obtain⟨xs,i,_⟩:=c;rw[l];exact HT f i rfl g (λop=>by unfold eqGuard;cases op<;>simp) rfl rfl (λd=>zAv d h _ _ _)
 .rw[q];exact HT f c rfl g (λop=>by unfold eqGuard;cases op<;>simp) rfl rfl (λd=>zxe d h)
 .rw[q];exact HT f c rfl g (λop=>by unfold eqGuard;cases op<;>simp) rfl rfl (λd=>zxf d h)
 .obtain⟨_,i⟩:=c;rw[l];exact HT f i rfl g (λop=>by unfold eqGuard;cases op<;>simp) rfl rfl (λd=>zq9 d h _)
 .obtain⟨_,b,A,i,_⟩:=c;rw[l];exact HT f i rfl g (λop=>by unfold eqGuard;cases op<;>simp) rfl rfl (λd=>zq9 d h _)
 .obtain⟨_,i⟩:=c;rw[l];exact HT f i rfl g (λop=>by unfold eqGuard;cases op<;>simp) rfl rfl (λd=>zzk d h _)
 .rw[q];exact HT f c rfl g (λop=>by unfold eqGuard;cases op<;>simp) rfl rfl (λd=>zxg d h)
def zxO{mx:Bool}{k:IntKind}:∀{xs:List X} {os:List Operand} {p:Int} {u:V},qu M.fm os xs=true->bn M w e a n->sJ e mx k p xs=some u ->
  ((os.map a.eval).foldlM (if mx then Builtin.max2 else Builtin.min2) (.int k p)).run P w=.ok (valOf u) w/\ar M w u (valOf u)
 | [],[],p,u,_,_,h=>by
  simp only[sJ,aab.injEq] at h;subst h
  exact⟨by simp[valOf],by simp only[ar,valOf]⟩
 | [],_::_,_,_,c,_,_=>by simp[qu] at c
 | _::_,[],_,_,c,_,_=>by simp[qu] at c
 | x::xs,o::os,p,u,c,g,h=>by
  simp only[qu,aaa] at c;simp only[sJ] at h;split at h
  case h_2=>cases h
  rename_i m b i;split at h
  case isFalse=>cases h
  rename_i j;subst j;have f:=fQ c.1 g;rw[i] at f;simp only[ar] at f;obtain⟨d,l⟩:=zxO c.2 g h;refine⟨?_,l⟩;rw[aaD,List.foldlM_cons,Sem.run_bind,f];cases mx
  .simp only[aap,if_false] at d |-;simp only[Builtin.min2,Sem.run_pure,Result.andThen_ok];simpa[MU] using d
  .simp only[if_true] at d |-;simp only[Builtin.max2,Sem.run_pure,Result.andThen_ok];simpa[MU] using d
def zMU{mx:Bool}{args:Array Operand}{ts:Array TypeId}{xs:List X}{base:Nat}(d:o.op=.call { callee:=.builtin (if mx then .max else .min),args:=args,argTypes:=ts })(c:qu M.fm args.toList xs=true)
  (i:bn M w e a n) (l:aI M w H) (b:aU base e H (.mm mx xs)=some (v,H1)):dj P o a M H w v H1:=by
 simp only[aU] at b;split at b
 case h_2=>cases b
 rename_i x xs;split at b
 case h_2=>cases b
 rename_i k p m;rw[aai] at b;obtain⟨u,q,b⟩:=b;cases b
 cases g:args.toList with
 | nil=>rw[g] at c;simp[qu] at c
 | cons t r =>
  rw[g] at c;simp only[qu,aaa] at c;have h:=fQ c.1 i;rw[m] at h;simp only[ar] at h;obtain⟨f,s⟩:=zxO (P:=P) c.2 i q;refine .plain (rv:=valOf v) l ?_ s
  have j:List.map a.eval args.toList=.int k p::r.map a.eval:=by rw[g,aaD,h]
  cases mx
  .simp only[aap,if_false] at f d;simp[execOp,d,resolve,invoke,builtin,Builtin.min_,j,f]
  .simp only[if_true] at f d;simp[execOp,d,resolve,invoke,builtin,Builtin.max_,j,f]
def zFX{t:TypeId}{x y:Operand}{g h:X}{base:Nat}(m:o.op=.index t x y)(p:aJ M.fm x g=true)(q:aJ M.fm y h=true)(r:P.underlying t=some .string)
  (j:bn M w e a n) (u:aI M w H) (c:aU base e H (.xe g h)=some (v,H1)):dj P o a M H w v H1:=by
 have d:=fQ p j;have f:=fQ q j;simp only[aU] at c;split at c
 case h_2=>cases c
 rename_i s k i z A;split at c
 case isFalse=>cases c
 rename_i D;split at c
 case h_2=>cases c
 rename_i b l;cases c;rw[z] at d;rw[A] at f;simp only[ar] at d f;refine .plain (rv:=.int .u8 b.toNat) u ?_ (by simp only[ar]);have B:i.toNat<s.length:=(aae.1 l).1
 have hi:0<=i/\i<(ByteArray.mk s.toArray).size:=by rw[zgV];omega
 have C:(ByteArray.mk s.toArray)[i.toNat]'(by rw[zgV];exact B)=b:=by have:=(aae.1 l).2;rw[<-this];rfl
 have:=run_index_string (P:=P) w t ⟨s.toArray⟩ k i r;rw[dif_pos hi,C] at this;simp[execOp,m,d,f,this]
def zFY{t:TypeId}{x:Operand}{d:X}{lo hi:Option Operand}{f g:Option X}{base:Nat}(k:o.op=.slice t x lo hi none)(p:aJ M.fm x d=true)(q:P.underlying t=some .string)
  (r:oA M.fm lo f=true) (u:oA M.fm hi g=true) (i:bn M w e a n) (y:aI M w H) (b:aU base e H (.sslc d f g)=some (v,H1)):dj P o a M H w v H1:=by
 have c:=fQ p i;simp only[aU] at b;split at b
 case h_2=>cases b
 rename_i s z;split at b
 case h_2=>cases b
 rename_i l h m A;cases b;rw[z] at c;simp only[ar] at c;refine .plain (rv:=.string ⟨((s.drop l).take (h-l)).toArray⟩) y ?_ (by simp only[ar]);have j:=Rz (P:=P) (w:=w) (isS:=false) (len:=s.length) (cap:=s.length) r u (mx:=none) (smx:=none) rfl i A (aah _);simp only[ab7] at j
 have B:(ByteArray.mk s.toArray).extract l h=⟨((s.drop l).take (h-l)).toArray⟩:=by apply ByteArray.ext;simp[ByteArray.data_extract,abU]
 simp[execOp,k,c,Instr.sliceAt,Instr.slice,run_underlying q,zgV,j.2.2.2,B]
def mD(P:Program)(t:TypeId):Ky->Bool
 | .sc .int=>match P.underlying t with|some (.int _)=>true|_=>false
 | .sc .bool=>match P.underlying t with|some .bool=>true|_=>false
 | .sc .str=>match P.underlying t with|some .string=>true|_=>false
 | .row a=>vb P 20 t==some a&&fU P t
def Nl(P:Program)(d:Nat)(t:TypeId)(ks:List Kd):Prop :=
 ∀(em:Bool) (M:Mm) (w c:World) (a:List V) (xs:List Value) (b:Bool),ai M w a xs->cG ks a a=some b->(Instr.checkKey em d t (pH (fU P t) xs)).run P c=.ok () c
def Nm:∀{k:Nat} {t:TypeId} {ks:List Kd} {d:Nat},vb P k t=some ks->k<=d->Nl P d t ks
 | 0,t,ks,d,h,_=>by simp[vb] at h
 | k+1,t,ks,0,h,hd=>by omega
 | k+1,t,ks,d+1,h,hd=>by
  have o:∀t ks,vb P k t=some ks->ix P t ks.length (fU P t)=true/\Nl P d t ks:=λt ks h=>⟨WI h,Nm h an⟩;simp only[vb] at h;split at h
  case h_2=>cases h
  rename_i J c;split at h
  case isFalse=>cases h
  rename_i K;cases h;clear K;intro em M w n j xs b u l;have W:=ik u
  have e:(∃r,P.underlying t=some (.int r))\/P.underlying t=some .bool\/P.underlying t=some .string->(Instr.checkKey em (d+1) t (pH (fU P t) xs)).run P n=.ok () n:=by
   intro hu;unfold Instr.checkKey
   rcases hu with⟨r,hu⟩|hu|hu<;>simp[run_underlying hu]
  split at c
  .rename_i r hu;exact e (.inl ⟨r,hu⟩)
  .rename_i hu;exact e (.inr (.inl hu))
  .rename_i hu;exact e (.inr (.inr hu))
  .rename_i N hu
   have v:fU P t=true:=by simp[fU,hu,TypeDesc.isRow]
   split at c
   case isFalse=>cases c
   rw[v];simp only[pH,if_true];rw[Instr.checkKey];simp only[Sem.run_bind,run_underlying hu,Result.andThen_ok];rw[<-Array.forIn_toList];obtain⟨off,g⟩:∃off,off=0:=⟨0,rfl⟩
   replace l:cG ks (j.drop off) (j.drop off)=some b:=by rw[g];simpa using l
   have O:off<=xs.length:=an
   rw[<-g] at c;clear g;generalize N.toList=L at c
   induction L generalizing off ks b with
   | nil=>simp
   | cons f L z =>
    simp only[Kx] at c;split at c
    case isFalse=>cases c
    rename_i Q;obtain⟨R,g⟩:=Q;split at c
    case h_2=>cases c
    rename_i a A;split at c
    case h_2=>cases c
    rename_i rs S;cases c;obtain⟨s,B⟩:=o _ _ A;obtain⟨x,y,p,C,rfl⟩:=Nh l;obtain⟨D,_⟩:=Kz p;simp only[aaf,aas] at D;have E:=KA (P:=P) (w:=n) (off:=off) (xs:=xs) s an;have F:=B em M w n _ _ x (wJ (yl u off) a.length) p;simp only[acB,Sem.run_bind,R,g,ne_eq,not_false_eq_true,if_true,Result.andThen_ok,E,F,Sem.run_pure]
    have q1:cG rs (j.drop (off+a.length)) (j.drop (off+a.length))=some y:=by simpa[abJ] using C
    have G:off+a.length<=xs.length:=an
    exact z (ks:=rs) (b:=y) (off:=off+a.length) q1 G S
  .rename_i m T hu
   have v:fU P t=true:=by simp[fU,hu,TypeDesc.isRow]
   split at c
   case h_2=>cases c
   rename_i a A;simp only[aab.injEq] at c;rw[v];obtain⟨s,B⟩:=o _ _ A;have q:=s;unfold ix at q;split at q
   case h_2=>cases q
   rename_i _ i X hi;simp only[aaa,beq_iff_eq] at q
   have U:∀H:World,(sizeOf T).run P H=.ok a.length H:=λH=>by simp[sizeOf,typeInfo,hi,q.1]
   simp only[pH,if_true];rw[Instr.checkKey];simp only[Sem.run_bind,run_underlying hu,Result.andThen_ok];simp only[Std.Legacy.Range.forIn_eq_forIn_range',Std.Legacy.Range.size,acq,Nat.add_one_sub_one,Nat.div_one];obtain⟨off,g⟩:∃off,off=0:=⟨0,rfl⟩
   replace l:cG (aan m a).flatten (j.drop (off*a.length)) (j.drop (off*a.length))=some b:=by rw[c,g];simpa using l
   have O:off*a.length<=xs.length:=by rw[g];omega
   have I:acw 0 m=acw off m:=by rw[g]
   rw[I];clear g I c hu
   induction m generalizing off b with
   | zero=>simp
   | succ m z =>
    rw[abI,aaH] at l;obtain⟨x,y,p,C,rfl⟩:=Nh l;obtain⟨D,_⟩:=Kz p;simp only[aaf,aas] at D;have E:=KA (P:=P) (w:=n) (off:=off*a.length) (xs:=xs) s an;have F:=B em M w n _ _ x (wJ (yl u _) a.length) p
    have V:(off+1)*a.length=off*a.length+a.length:=by rw[aaY,abj]
    rw[acz];simp only[acB,Sem.run_bind,U,Result.andThen_ok,E,F,Sem.run_pure]
    have q1:cG (aan m a).flatten (j.drop ((off+1)*a.length)) (j.drop ((off+1)*a.length))=some y:=by rw[V];simpa[abJ] using C
    have G:(off+1)*a.length<=xs.length:=an
    exact z (b:=y) (off:=off+1) q1 G
  .cases c
def WN{t:TypeId}{ky:Ky}(a:mD P t ky=true):∃d,P.underlying t=some d/\(ky.isRow=true->d.isRow=true):=by
 unfold mD at a;split at a
 .split at a
  .exact⟨_,‹_›,λh=>by cases h⟩
  .cases a
 .split at a
  .exact⟨_,‹_›,λh=>by cases h⟩
  .cases a
 .split at a
  .exact⟨_,‹_›,λh=>by cases h⟩
  .cases a
 .simp only[aaa,beq_iff_eq] at a;have b:=a.2;unfold fU at b;split at b
  .rename_i d hd;exact⟨d,hd,λ_=>b⟩
  .cases b
def zu9{t:TypeId}{ks:List Kd}(a:mD P t (.row ks)=true):vb P 20 t=some ks/\fU P t=true:=by simpa[mD] using a
def vc(M:Mm)(w:World)(es:List (V×V))(ents:List MapEntry)(i:Nat):Option (Nat×V)->Option (Nat×Value)->Prop
 | none,none=>True
 | some (j,u),some (b,x)=>j=b/\i<=j/\(∃p a,es[j-i]?=some p/\ents[j-i]?=some a/\p.2=u/\a.val=x)/\ar M w u x
 | _,_=>False
def zxP{t:TypeId}{ky:Ky}{g:V}{s:Value}(e:mD P t ky=true)(A:ky.isRow=false)(f:ar M w g s):∀{es:List (V×V)} {ents:List MapEntry} {i:Nat} {r:Option (Nat×V)},
  ai M w (es.map (·.1)) (ents.map (·.key))->ai M w (es.map (·.2)) (ents.map (·.val))->kc ky g es i=some r ->
  ∃d r',P.underlying t=some d/\Instr.findNow d s ents i=some r'/\vc M w es ents i r r'
 | [],ents,i,r,c,k,h=>by
  have n:=ik c;simp only[aaJ,aaw,aby] at n;have:ents=[]:=abk n;subst this;simp only[kc,aab.injEq] at h;subst h;obtain⟨d,hd,_⟩:=WN e
  exact⟨d,none,hd,rfl,trivial⟩
 | p::es,[],i,r,c,k,h=>by
  have n:=ik c
  simp at n
 | p::es,v::ents,i,r,c,k,h=>by
  simp only[aaD,ai] at c k;obtain⟨x1,D,E,c,F⟩:=c;obtain⟨x2,G,H,k,I⟩:=k;cases E;cases H
  have B:∀b,ka ky g p.1=some b->∃d,P.underlying t=some d/\Instr.sameNow d s v.key=some b:=by
   intro b a;unfold mD at e;split at e
   .split at e
    .rename_i X l;refine⟨_,l,?_⟩;unfold ka at a
     cases m:g<;>rw[m] at a f<;>cases hd:p.1<;>rw[hd] at a c<;>simp only[qP,reduceCtorEq] at a
     simp only[ar] at f c;rw[f,c];split at a
     .rename_i J;simp only[Instr.sameNow,J,if_true];exact a
     .cases a
    .cases e
   .split at e
    .rename_i l;refine⟨_,l,?_⟩;unfold ka at a
     cases m:g<;>rw[m] at a f<;>cases hd:p.1<;>rw[hd] at a c<;>simp only[qP,reduceCtorEq] at a
     simp only[ar] at f c;rw[f,c];simp only[Instr.sameNow];exact a
    .cases e
   .split at e
    .rename_i l;refine⟨_,l,?_⟩;unfold ka at a
     cases m:g<;>rw[m] at a f<;>cases hd:p.1<;>rw[hd] at a c<;>simp only[qP,reduceCtorEq] at a
     simp only[ar] at f c;rw[f,c];simp only[Instr.sameNow,beq_toListBytes,ByteArray.toList_mk];exact a
    .cases e
   .cases A
  simp only[kc] at h;split at h
  .rename_i y;obtain⟨d,hd,z⟩:=B true y;simp only[aab.injEq] at h;subst h;refine⟨d,some (i,v.val),hd,by simp only[Instr.findNow,z],rfl,aah _,⟨p,v,ir,ir,rfl,rfl⟩,k⟩
  .rename_i y;obtain⟨d,hd,z⟩:=B false y;obtain⟨d',r',C,K,o⟩:=zxP e A f F I h;rw[hd] at C;cases C;refine⟨d,r',hd,by simp only[Instr.findNow,z];exact K,?_⟩
   cases r with
   | none=>cases r'<;>simp only[vc] at o |-
   | some q =>
    obtain⟨j,u⟩:=q
    cases r' with
    | none=>simp only[vc] at o
    | some L =>
     obtain⟨Y,x⟩:=L;simp only[vc] at o |-;obtain⟨N,Z,⟨O,Q,R,S,T,U⟩,W⟩:=o;refine⟨N,an,⟨O,Q,?_,?_,T,U⟩,W⟩
     .rw[show j-i=(j-(i+1))+1 by omega];simpa using R
     .rw[show j-i=(j-(i+1))+1 by omega];simpa using S
  .cases h
def RE{t:TypeId}{ky:Ky}{c:V}{f:Value}(a:mD P t ky=true)(g:ar M w c f)(i:ky.isRow=true->∃b,ka ky c c=some b)(em:Bool)(w2:World):(Instr.checkKey em 10000 t f).run P w2=.ok () w2:=by
 cases ky with
 | sc kd =>
  unfold mD at a;split at a
  case h_4=>rename_i e;cases e
  all_goals
   split at a
   .rename_i j;unfold Instr.checkKey;simp[run_underlying j]
   .cases a
 | row n =>
  obtain⟨k,l⟩:=zu9 a;obtain⟨b,h⟩:=i rfl
  cases c<;>simp only[ka,reduceCtorEq] at h
  simp only[ar] at g;obtain⟨_,xs,rfl,m⟩:=g;have:=Nm (P:=P) (d:=10000) k an em M w w2 _ xs b m h;rw[l] at this;simpa only[pH,if_true] using this
def zAw{t:TypeId}{ks:List Kd}{cs:List V}{g:Value}(s:vb P 20 t=some ks)(v:fU P t=true)(k:ar M w (.agg cs) g):∀{es:List (V×V)} {ents:List MapEntry} {i:Nat} {r:Option (Nat×V)},
  ai M w (es.map (·.1)) (ents.map (·.key))->ai M w (es.map (·.2)) (ents.map (·.val))->kc (.row ks) (.agg cs) es i=some r ->
  ∃r',(∀w2,(Instr.findAsking t g ents i).run P w2=.ok r' w2)/\vc M w es ents i r r'
 | [],ents,i,r,a,c,h=>by
  have e:=ik a;simp only[aaJ,aaw,aby] at e;have:ents=[]:=abk e;subst this;simp only[kc,aab.injEq] at h;subst h
  exact⟨none,λw2=>by simp[Instr.findAsking],trivial⟩
 | p::es,[],i,r,a,c,h=>by
  have e:=ik a
  simp at e
 | p::es,l::ents,i,r,a,c,h=>by
  simp only[aaD,ai] at a c;obtain⟨x1,z,q1,a,A⟩:=a;obtain⟨x2,B,C,c,D⟩:=c;cases q1;cases C
  have y:∀b,ka (.row ks) (.agg cs) p.1=some b->∀w2,(Op.equal t g l.key).run P w2=.ok b w2:=by
   intro b m w2
   cases E:p.1<;>rw[E] at m a<;>simp only[ka,reduceCtorEq] at m
   simp only[ar] at k a;obtain⟨_,xs,rfl,F⟩:=k;obtain⟨_,G,H,I⟩:=a;rw[H];have n:=WJ (P:=P) (d:=10000) s an M w w2 _ _ xs G b F I m;rw[v] at n;simp only[pH,if_true] at n;exact n
  simp only[kc] at h;split at h
  .rename_i o;simp only[aab.injEq] at h;subst h;exact⟨some (i,l.val),λw2=>by simp[Instr.findAsking,y true o w2],rfl,aah _,⟨p,l,ir,ir,rfl,rfl⟩,c⟩
  .rename_i o;obtain⟨r',J,f⟩:=zAw s v k A D h;refine⟨r',λw2=>by simp[Instr.findAsking,y false o w2,J w2],?_⟩
   cases r with
   | none=>cases r'<;>simp only[vc] at f |-
   | some q =>
    obtain⟨j,u⟩:=q
    cases r' with
    | none=>simp only[vc] at f
    | some K =>
     obtain⟨W,x⟩:=K;simp only[vc] at f |-;obtain⟨L,X,⟨N,O,Q,R,S,T⟩,U⟩:=f;refine⟨L,an,⟨N,O,?_,?_,S,T⟩,U⟩
     .rw[show j-i=(j-(i+1))+1 by omega];simpa using Q
     .rw[show j-i=(j-(i+1))+1 by omega];simpa using R
  .cases h
def zxh{d:TypeDesc}(h:d.isRow=true)(a b:Value):Instr.sameNow d a b=none:=by cases d<;>simp[TypeDesc.isRow] at h<;>rfl
def zqg{t:TypeId}{d:TypeDesc}{a:Value}{ents:List MapEntry}(hd:P.underlying t=some d)(h:Instr.findNow d a ents 0=none)(w2:World):(Instr.findKey t a ents).run P w2=(Instr.findAsking t a ents).run P w2:=by simp[Instr.findKey,run_underlying hd,h]
def KB{t:TypeId}{ky:Ky}{c:V}{k:Value}{es:List (V×V)}{ents:List MapEntry}{r:Option (Nat×V)}(g:mD P t ky=true)(m:ar M w c k)
  (p:ky.isRow=true->∃b,ka ky c c=some b) (n:ai M w (es.map (·.1)) (ents.map (·.key))) (o:ai M w (es.map (·.2)) (ents.map (·.val))) (h:kc ky c es 0=some r) :
  ∃r',(∀w,(Instr.findKey t k ents).run P w=.ok r' w)/\vc M w es ents 0 r r':=by
 cases e:ky.isRow
 .obtain⟨d,r',hd,f,i⟩:=zxP g e m n o h;exact⟨r',λw=>MapKept.run_findKey hd f,i⟩
 .obtain⟨d,hd,q⟩:=WN g;have s:=q e;obtain⟨b,u⟩:=p e
  cases ky with
  | sc kd=>cases e
  | row z =>
   obtain⟨v,x⟩:=zu9 g
   cases c<;>simp only[ka,reduceCtorEq] at u
   obtain⟨r',f,i⟩:=zAw v x m n o h;refine⟨r',λj=>?_,i⟩
   cases ents with
   | nil =>
    have y:=f j;rw[MapKept.run_findKey (P:=P) (w:=j) (l:=[]) (a:=none) hd rfl]
    simpa[Instr.findAsking] using y
   | cons A ents =>
    rw[zqg hd (by simp only[Instr.findNow,zxh s])];exact f j
def mapOf?(P:Program)(t:TypeId):Option (TypeId×TypeId) :=
 match P.underlying t with
 | some (.map k a)=>some (k,a)
 | _=>none
def mapOf?_some{t k a:TypeId}(h:mapOf? P t=some (k,a)):P.underlying t=some (.map k a):=by
 unfold mapOf? at h;split at h
 .rename_i b;cases h;exact b
 .cases h
def zC9{t:TypeId}{base s:Nat}(c:o.op=.makeMap t none)(d:aI M w H)(b:aU base e H (.ri s)=some (v,H1)):dj P o a M H w v H1:=by
 simp only[aU] at b;split at b
 case isFalse=>cases b
 rename_i f;cases b
 obtain⟨st,g,r⟩:=MY (ob:=.map #[] 0) (blk0:=.map []) d f rfl λj k=>by
  simp only[aM];refine⟨by simp[Mm.i_],#[],?_,by simp only[aaJ,ai],by simp only[aaJ,ai],λi x h=>by simp at h⟩;simp only[Mm.i_,if_true];exact heap_alloc_new w _
 refine⟨.value (.map (some w.heap.size)),_,_,?_,?_,st,g,r⟩
 .simp only[execOp,c,ab7,Sem.run_bind,run_makeMap,Result.andThen_ok,Sem.run_pure]
 .simp only[ar,Mm.i_,decide_true,aa7,if_true,true_and]
def KD(P:Program)(t:TypeId)(z:V):Bool :=
 match P.info? t with
 | some i=>match i.zero with
  | some a=>uv a z
  | none=>false
 | none=>false
def zFZ{t F s:TypeId}{x y:Operand}{R l:X}{base:Nat}{ky:Ky}{j:Bool}{z:V}(G:o.op=.lookup t x y j)(hx:aJ M.fm x R=true)(hy:aJ M.fm y l=true)
  (oC:mapOf? P t=some (F,s)) (r:mD P F ky=true) (m:KD P s z=true) (S:bn M w e a n) (A:aI M w H) (f:aU base e H (.ur ky j z R l)=some (v,H1)):dj P o a M H w v H1:=by
 have I:=mapOf?_some oC;have k:=fQ hx S;have B:=fQ hy S
 obtain⟨i,c,hi,J,WQ⟩:∃i c,P.info? s=some i/\i.zero=some c/\uv c z=true:=by
  unfold KD at m;split at m
  .rename_i i hi;split at m
   .rename_i c J;exact⟨i,c,hi,J,m⟩
   .cases m
  .cases m
 have g:∀w,(zeroValue s).run P w=.ok c w:=λw=>by simp[zeroValue,typeInfo,hi,J]
 have C:ar M w z c:=Rp WQ;simp only[aU] at f;split at f
 case isTrue=>cases f
 rename_i vK
 have D:ky.isRow=true->∃b,ka ky (l.ev e) (l.ev e)=some b:=λh=>by
  cases hq:ka ky (l.ev e) (l.ev e) with
  | none=>exact absurd ⟨h,hq⟩ vK
  | some b=>exact⟨b,rfl⟩
 split at f
 .rename_i id K;split at f
  case h_2=>cases f
  rename_i es hb;rw[K] at k;simp only[ar] at k;have T:=A.rel id _ hb;simp only[aM] at T;obtain⟨_,ents,hh,U,W,h_⟩:=T;have Y:=MapKept.run_getObj_map (P:=P) hh;have E:=λem=>RE r B D em w;split at f
  .rename_i q u L;obtain⟨N,O,p⟩:=KB r B D U W L
   cases N with
   | none=>simp only[vc] at p
   | some Z =>
    obtain⟨j',Q⟩:=Z;simp only[vc] at p;cases f;refine .plain (rv:=if j then .tuple #[Q,.bool true] else Q) A ?_ ?_
    .simp only[execOp,G,k.2,Instr.lookup,Sem.run_bind,run_underlying I,Result.andThen_ok,Y,Sem.run_pure,E,O]
    .cases j
     .simpa using p.2.2.2
     .simp only[if_true,ar];exact⟨[Q,.bool true],rfl,by simp only[ai];exact⟨_,_,rfl,p.2.2.2,_,_,rfl,by simp only[ar],rfl⟩⟩
  .rename_i L;obtain⟨N,O,p⟩:=KB r B D U W L
   cases N with
   | some Z=>simp only[vc] at p
   | none =>
    cases f;refine .plain (rv:=if j then .tuple #[c,.bool false] else c) A ?_ ?_
    .simp only[execOp,G,k.2,Instr.lookup,Sem.run_bind,run_underlying I,Result.andThen_ok,Y,Sem.run_pure,E,O,g]
    .cases j
     .simpa using C
     .simp only[if_true,ar];exact⟨[c,.bool false],rfl,by simp only[ai];exact⟨_,_,rfl,C,_,_,rfl,by simp only[ar],rfl⟩⟩
  .cases f
 .rename_i K;cases f;rw[K] at k;simp only[ar] at k;have E:=λem=>RE r B D em w
  have WT:∀w,(Instr.findKey F (a.eval y) []).run P w=.ok none w:=λw=>by
   obtain⟨d,hd,_⟩:=WN r;exact MapKept.run_findKey hd rfl
  refine .plain (rv:=if j then .tuple #[c,.bool false] else c) A ?_ ?_
  .simp only[execOp,G,k,Instr.lookup,Sem.run_bind,run_underlying I,Result.andThen_ok,Sem.run_pure,E,WT,g]
  .cases j
   .simpa using C
   .simp only[if_true,ar];exact⟨[c,.bool false],rfl,by simp only[ai];exact⟨_,_,rfl,C,_,_,rfl,by simp only[ar],rfl⟩⟩
 .cases f
def zva{c d:V}{x e:Value}{k:Kd}(h:qP k c d=some true)(a:ar M w c x)(b:ar M w d e):Instr.sameBits 10000 e x=true:=by
 cases k<;>cases c<;>cases d<;>simp only[qP,reduceCtorEq,aab.injEq] at h
 .split at h
  .rename_i f;subst f;simp at h;subst h;simp only[ar] at a b;subst a;subst b;simp[Instr.sameBits]
  .cases h
 .simp at h;subst h;simp only[ar] at a b;subst a;subst b;simp[Instr.sameBits]
 .simp at h;subst h;simp only[ar] at a b;subst a;subst b;simp only[Instr.sameBits,beq_toListBytes,beq_self_eq_true]
def zxi{c d:V}{x e:Value}{k:Kd}(n:Nat)(h:qP k c d=some true)(a:ar M w c x)(b:ar M w d e):Instr.sameBits n e x=true:=by
 cases k<;>cases c<;>cases d<;>simp only[qP,reduceCtorEq,aab.injEq] at h
 .split at h
  .rename_i f;subst f;simp at h;subst h;simp only[ar] at a b;subst a;subst b;simp[Instr.sameBits]
  .cases h
 .simp at h;subst h;simp only[ar] at a b;subst a;subst b;simp[Instr.sameBits]
 .simp at h;subst h;simp only[ar] at a b;subst a;subst b;simp only[Instr.sameBits,beq_toListBytes,beq_self_eq_true]
def zn0(n:Nat):∀{ks:List Kd} {cs ds:List V} {xs ys:List Value},cG ks cs ds=some true->ai M w cs xs->ai M w ds ys->ys.length=xs.length/\((ys.zip xs).all fun(p:Value×Value)=>Instr.sameBits n p.1 p.2)=true
 | [],[],[],xs,ys,_,a,b=>by
  simp only[ai] at a b;subst a;subst b
  exact⟨rfl,rfl⟩
 | [],[],_::_,_,_,h,_,_=>by simp[cG] at h
 | [],_::_,_,_,_,h,_,_=>by simp[cG] at h
 | _::_,[],_,_,_,h,_,_=>by simp[cG] at h
 | _::_,_::_,[],_,_,h,_,_=>by simp[cG] at h
 | k::ks,c::cs,d::ds,xs,ys,h,a,b=>by
  simp only[ai] at a b;obtain⟨x,o,rfl,e,a⟩:=a;obtain⟨y,f,rfl,g,b⟩:=b;simp only[cG] at h;split at h
  case h_2=>cases h
  rename_i u v i j;simp only[aab.injEq,aaa] at h;obtain⟨rfl,rfl⟩:=h;obtain⟨l,m⟩:=zn0 n j a b;exact⟨by simp[l],by simp only[acr,List.all_cons,aaa];exact⟨zxi n i e g,m⟩⟩
def zpN{ky:Ky}{a b:V}{x e:Value}(h:ka ky a b=some true)(c:ar M w a x)(d:ar M w b e):Instr.sameBits 10000 e x=true:=by
 cases ky with
 | sc kd=>exact zva (k:=kd) h c d
 | row l =>
  cases a<;>cases b<;>simp only[ka,reduceCtorEq] at h
  simp only[ar] at c d;obtain⟨_,xs,rfl,f⟩:=c;obtain⟨_,m,rfl,g⟩:=d;obtain⟨i,j⟩:=zn0 9999 h f g;rw[Instr.sameBits];simp only[abT,i,beq_self_eq_true,acE];exact j
def WU{ky:Ky}{a:V}:∀{es:List (V×V)} {i j:Nat} {u:V},kc ky a es i=some (some (j,u))->i<=j/\∃p,es[j-i]?=some p/\p.2=u/\ka ky a p.1=some true
 | [],i,j,u,h=>by simp[kc] at h
 | p::es,i,j,u,h=>by
  simp only[kc] at h;split at h
  .rename_i b;simp only[aab.injEq,abW.injEq] at h;obtain⟨rfl,rfl⟩:=h;exact⟨aah _,p,ir,rfl,b⟩
  .obtain⟨e,q,c,d⟩:=WU h;refine⟨an,q,?_,d⟩;rw[show j-i=(j-(i+1))+1 by omega];simpa using c
  .cases h
def Nn{id:Nat}{es fs:List (V×V)}{ents:Array MapEntry}(b:aI M w H)(c:H[id]?=some (some (.map es)))
  (g:ai M w (fs.map (·.1)) (ents.toList.map (·.key))) (h:ai M w (fs.map (·.2)) (ents.toList.map (·.val))) (k:∀(i:Nat) (x:MapEntry),ents[i]?=some x->x.born=i) :
  eH M H w (M.cK (M.j id) 0) (H.set id (some (.map fs))) { w with heap:=w.heap.setIfInBounds (M.j id) (.map ents fs.length) }/\e_ M (M.cK (M.j id) 0) H.length /\
   aI (M.cK (M.j id) 0) { w with heap:=w.heap.setIfInBounds (M.j id) (.map ents fs.length) } (H.set id (some (.map fs))):=by
 have d:=b.rel id _ c;simp only[aM] at d;obtain⟨l,n,m,_⟩:=d;have e:=MapKept.heap_set (o':=.map ents fs.length) m;refine Rm b c rfl rfl l 0 rfl rfl rfl ir e.2 λa f=>?_;simp only[aM];exact⟨by simp[Mm.cK],ents,e.1,ai.step a b f g,ai.step a b f h,k⟩
def KE{cs:List V}{xs:List Value}(h:ai M w cs xs){i:Nat}{c:V}{x:Value}(g:ar M w c x):ai M w (cs.set i c) (xs.set i x):=by
 have b:=ik h;refine AJ (by simp[b]) λj d y hd a=>?_;rw[abf] at hd a
 by_cases e:i=j
 .subst e;simp only[if_true] at hd a;split at hd
  .rename_i k;rw[if_pos (by rw[b];exact k)] at a;cases hd;cases a;exact g
  .cases hd
 .rw[if_neg e] at hd a;obtain⟨m,f,l⟩:=ou h hd;rw[a] at f;cases f;exact l
def zxQ{t W el:TypeId}{x y z:Operand}{Y g sz:X}{base:Nat}{ky:Ky}(B:o.op=.insert t x y z\/o.op=.mapUpdate t x y z)(d:aJ M.fm x Y=true)(hy:aJ M.fm y g=true)(hz:aJ M.fm z sz=true)
  (oC:mapOf? P t=some (W,el)) (I:mD P W ky=true) (J:bn M w e a n) (K:aI M w H) (f:aU base e H (.mput ky Y g sz)=some (v,H1)):dj P o a M H w v H1:=by
 have Z:=mapOf?_some oC;have C:=fQ d J;have j:=fQ hy J;have KF:=fQ hz J;simp only[aU] at f;split at f
 case h_2=>cases f
 rename_i id hp;split at f
 case isTrue=>cases f
 rename_i im;split at f
 case h_2=>cases f
 rename_i D L;rw[hp] at C;simp only[ar] at C;have cU:=K.rel id _ L;simp only[aM] at cU;obtain⟨_,ents,hh,l,E,N⟩:=cU
 have m:ents.size=D.length:=by have:=ik l;simpa using this
 have gh:=MapKept.run_getObj_map (P:=P) hh
 have O:ky.isRow=true->∃b,ka ky (g.ev e) (g.ev e)=some b:=λ_=>by
  cases hq:ka ky (g.ev e) (g.ev e) with
  | none=>exact absurd (.inl hq) im
  | some b=>exact⟨b,rfl⟩
 have mV:=λem=>RE I j O em w;have b_:=λob=>MapKept.run_setObj_map (P:=P) ob hh
 have q:∀w',(Instr.mapUpdate t (a.eval x) (a.eval y) (a.eval z)).run P w=.ok () w'->(execOp a.eval o).run P w=.ok .skip w':=by
  intro w' h
  rcases B with B|B<;>simp only[execOp,B,Sem.run_bind,h,Result.andThen_ok,Sem.run_pure]
 split at f
 .rename_i i u F;obtain⟨Q,R,s⟩:=KB I j O l E F
  cases Q with
  | none=>simp only[vc] at s
  | some q' =>
   obtain⟨j',x'⟩:=q';simp only[vc] at s;obtain⟨rfl,_,⟨p,kR,vL,G,_,_⟩,_⟩:=s;obtain⟨_,p',S,_,HW⟩:=WU F;rw[S] at vL;cases vL;simp only[acq] at S G;cases f
   have vM:ar M w p.1 kR.key:=by obtain⟨y2,h2,h3⟩:=ou l (i:=i) (c:=p.1) (by rw[aau,S];rfl);rw[aau,G] at h2;cases h2;exact h3
   have WX:=zpN HW j vM
   have T:ents[i]?=some kR:=by rw[<-aaj];exact G
   have U:(ents.modify i λen=>{ en with key:=a.eval y,val:=a.eval z }).toList=ents.toList.set i { kR with key:=a.eval y,val:=a.eval z }:=by
    apply acs;intro k;rw[aaj,abt,abf]
    by_cases A:i=k
    .subst A;have ah:i<ents.toList.length:=(aae.1 G).1;rw[if_pos rfl,if_pos rfl,if_pos ah,T];rfl
    .rw[if_neg A,if_neg A,aaj]
   obtain⟨st,V,r⟩:=Nn (fs:=D.set i (g.ev e,sz.ev e)) (ents:=ents.modify i λen=>{ en with key:=a.eval y,val:=a.eval z }) K L
    (by rw[U,aaK,aaK];exact KE l j) (by rw[U,aaK,aaK];exact KE E KF)
    (λk x d=>by
     rw[<-aaj,U,abf] at d;split at d
     .rename_i A;subst A;split at d
      .cases d;exact N _ kR T
      .cases d
     .rw[aaj] at d;exact N k x d)
   refine⟨.skip,_,_,q _ ?_,rfl,st,V,r⟩;simp only[Instr.mapUpdate,C.2,Sem.run_bind,run_underlying Z,Result.andThen_ok,gh,mV,R,Instr.keyThatStays,T,abi,ab2,WX,if_true,Sem.run_pure,b_,abd]
 .rename_i F;obtain⟨Q,R,s⟩:=KB I j O l E F
  cases Q with
  | some q'=>simp only[vc] at s
  | none =>
   cases f
   obtain⟨st,V,r⟩:=Nn (fs:=D++[(g.ev e,sz.ev e)]) (ents:=ents.push { key:=a.eval y,val:=a.eval z,born:=D.length }) K L
    (by rw[aba,abB,aba];exact zj l (by simp only[aaD,aaJ,ai];exact⟨_,_,rfl,j,rfl⟩))
    (by rw[aba,abB,aba];exact zj E (by simp only[aaD,aaJ,ai];exact⟨_,_,rfl,KF,rfl⟩))
    (λk x d=>by
     rw[acj] at d;split at d
     .rename_i DR;cases d;rw[<-m];exact DR.symm
     .exact N k x d)
   refine⟨.skip,_,_,q _ ?_,rfl,st,V,r⟩;simp only[Instr.mapUpdate,C.2,Sem.run_bind,run_underlying Z,Result.andThen_ok,gh,mV,R,b_,aaF,abg,aby]
 .cases f
def zHI{t:TypeId}{x:Operand}{d:X}{base s:Nat}(g:o.op=.range t x)(h:aJ M.fm x d=true)(i:P.underlying t=some .string)(j:bn M w e a n)(k:aI M w H)
  (b:aU base e H (.FB s d)=some (v,H1)):dj P o a M H w v H1:=by
 have c:=fQ h j;simp only[aU] at b;split at b
 case h_2=>cases b
 rename_i f l;split at b
 case isFalse=>cases b
 rename_i m;cases b;rw[l] at c;simp only[ar] at c
 obtain⟨st,p,r⟩:=MY (ob:=.stringIter ⟨f.toArray⟩ 0) (blk0:=.dF f 0) k m rfl λq u=>by
  simp only[aM];refine⟨by simp[Mm.i_],?_⟩;simp only[Mm.i_,if_true];exact heap_alloc_new w _
 refine⟨.value (.pointer (some ⟨w.heap.size,0,none⟩)),_,_,?_,?_,st,p,r⟩
 .simp[execOp,g,c,Instr.range,run_underlying i]
 .simp only[ar,Mm.i_,decide_true,aa7,if_true,true_and]
def zHJ{x:Operand}{k:X}{base:Nat}(l:o.op=.next x true)(s:aJ M.fm x k=true)(t:bn M w e a n)(f:aI M w H)
  (c:aU base e H (.yk k)=some (v,H1)):dj P o a M H w v H1:=by
 have d:=fQ s t;simp only[aU] at c;split at c
 case h_2=>cases c
 rename_i id u;split at c
 case h_2=>cases c
 rename_i b pos m;rw[u] at d;simp only[ar] at d;have p:=f.rel id _ m;simp only[aM] at p;obtain⟨y,g⟩:=p;split at c
 .rename_i h;cases c;have i:=Lib.run_next_any_at (P:=P) w (M.j id) ⟨b.toArray⟩ pos o.type g (by rw[zgV];exact h);have q:=MapKept.heap_set (o':=.stringIter ⟨b.toArray⟩ (pos+(Utf8.decode ⟨b.toArray⟩ pos).2)) g
  obtain⟨st,z,r⟩:=Rm (blk1:=.dF b (pos+(Utf8.decode ⟨b.toArray⟩ pos).2)) (w':=w.iterAt (M.j id) ⟨b.toArray⟩ (pos+(Utf8.decode ⟨b.toArray⟩ pos).2)) f m rfl rfl y 0 rfl rfl rfl (by simp[World.iterAt]) q.2 λA B=>by
   simp only[aM];exact⟨by simp[Mm.cK],q.1⟩
  refine⟨.value (.tuple #[.bool true,.int .i64 pos,.int .i32 (Utf8.decode ⟨b.toArray⟩ pos).1]),_,_,?_,?_,st,z,r⟩
  .simp only[execOp,l,d.2,Sem.run_bind,i,Result.andThen_ok,Sem.run_pure]
  .simp only[ar];exact⟨[.bool true,.int .i64 pos,.int .i32 (Utf8.decode ⟨b.toArray⟩ pos).1],rfl,by simp[ai,ar]⟩
 .rename_i h;cases c;have i:=Lib.run_next_end_at (P:=P) w (M.j id) ⟨b.toArray⟩ pos o.type g (by rw[zgV];exact h);refine .plain (rv:=.tuple #[.bool false]) f ?_ ?_
  .simp only[execOp,l,d.2,Sem.run_bind,i,Result.andThen_ok,Sem.run_pure]
  .simp only[ar];exact⟨[.bool false],rfl,by simp[ai,ar]⟩
def zpO{ents:Array MapEntry}{i:Nat}{f:MapEntry->MapEntry}{a:MapEntry}(h:ents[i]?=some a):(ents.modify i f).toList=ents.toList.set i (f a):=by
 have c:ents.toList[i]?=some a:=by rw[aaj];exact h
 apply acs;intro k;rw[aaj,abt,abf]
 by_cases b:i=k
 .subst b;have d:i<ents.toList.length:=(aae.1 c).1;rw[if_pos rfl,if_pos rfl,if_pos d,h];rfl
 .rw[if_neg b,if_neg b,aaj]
def zvb{ents:Array MapEntry}{i:Nat}{b c:MapEntry}{d:Array MapEntry}(f:d.toList=ents.toList.set i c)(g:ents[i]?=some b)(h:c.born=b.born)(e:∀(i:Nat) (x:MapEntry),ents[i]?=some x->x.born=i) :
  ∀(k:Nat) (x:MapEntry),d[k]?=some x->x.born=k:=λk x a=>by
 rw[<-aaj,f,abf] at a;split at a
 .rename_i j;subst j;split at a
  .cases a;rw[h];exact e _ b g
  .cases a
 .rw[aaj] at a;exact e k x a
def zF0{t kt K:TypeId}{x y:Operand}{sx j:X}{base:Nat}{ky:Ky}{z:V}(ho:o.op=.mapEntry t x y)(m:aJ M.fm x sx=true)(hy:aJ M.fm y j=true)
  (oC:mapOf? P t=some (kt,K)) (S:mD P kt ky=true) (q:KD P K z=true) (ht:bn M w e a n) (C:aI M w H) (d:aU base e H (.vw ky z sx j)=some (v,H1)):dj P o a M H w v H1:=by
 have hu:=mapOf?_some oC;have L:=fQ m ht;have s:=fQ hy ht
 obtain⟨i,g,hi,T,WQ⟩:∃i g,P.info? K=some i/\i.zero=some g/\uv g z=true:=by
  unfold KD at q;split at q
  .rename_i i hi;split at q
   .rename_i g T;exact⟨i,g,hi,T,q⟩
   .cases q
  .cases q
 have l:∀w,(zeroValue K).run P w=.ok g w:=λw=>by simp[zeroValue,typeInfo,hi,T]
 have DQ:ar M w z g:=Rp WQ;simp only[aU] at d;split at d
 case h_2=>cases d
 rename_i id hp;split at d
 case isTrue=>cases d
 rename_i im;split at d
 case h_2=>cases d
 rename_i A U;rw[hp] at L;simp only[ar] at L;have cU:=C.rel id _ U;simp only[aM] at cU;obtain⟨_,ents,hh,B,D,W⟩:=cU
 have E:ents.size=A.length:=by have:=ik B;simpa using this
 have gh:=MapKept.run_getObj_map (P:=P) hh
 have Y:ky.isRow=true->∃b,ka ky (j.ev e) (j.ev e)=some b:=λ_=>by
  cases hq:ka ky (j.ev e) (j.ev e) with
  | none=>exact absurd hq im
  | some b=>exact⟨b,rfl⟩
 have mV:=λem=>RE S s Y em w;have b_:=λob=>MapKept.run_setObj_map (P:=P) ob hh
 have F:∀r w',(Instr.mapEntry t (a.eval x) (a.eval y)).run P w=.ok r w'->(execOp a.eval o).run P w=.ok (.value r) w':=by intro r w' h;simp only[execOp,ho,Sem.run_bind,h,Result.andThen_ok,Sem.run_pure]
 split at d
 .rename_i i u N;obtain⟨Z,lg,G⟩:=KB S s Y B D N
  cases Z with
  | none=>simp only[vc] at G
  | some q' =>
   obtain⟨j',x'⟩:=q';simp only[vc] at G;obtain⟨rfl,_,⟨p,kR,vL,O,_,_⟩,ha⟩:=G;obtain⟨_,p',Q,me,HW⟩:=WU N;rw[Q] at vL;cases vL;simp only[acq] at Q O;cases d
   have vM:ar M w p.1 kR.key:=by obtain⟨y2,I,h3⟩:=ou B (i:=i) (c:=p.1) (by rw[aau,Q];rfl);rw[aau,O] at I;cases I;exact h3
   have No:ar M w p.2 kR.val:=by obtain⟨y2,I,h3⟩:=ou D (i:=i) (c:=p.2) (by rw[aau,Q];rfl);rw[aau,O] at I;cases I;exact h3
   have WX:=zpN HW s vM
   have R:ents[i]?=some kR:=by rw[<-aaj];exact O
   have rE:=zpO (f:=λen=>{ en with key:=a.eval y }) R
   have hc:(ents.toList.set i { kR with key:=a.eval y }).map (·.val)=(ents.toList.map (·.val)).set i kR.val:=by rw[aaK]
   obtain⟨st,J,r⟩:=Nn (fs:=A.set i (j.ev e,u)) (ents:=ents.modify i λen=>{ en with key:=a.eval y }) C U
    (by rw[rE,aaK,aaK];exact KE B s) (by rw[rE,hc,aaK,<-me];exact KE D No)
    (zvb rE R rfl W)
   have RF:=W i kR R;refine⟨.value (.tuple #[x',.int .i64 (i:Int)]),_,_,F _ _ ?_,?_,st,J,r⟩
   .simp only[Instr.mapEntry,L.2,Sem.run_bind,run_underlying hu,Result.andThen_ok,gh,mV,lg,Instr.keyThatStays,R,abi,ab2,WX,if_true,Sem.run_pure,b_,abd,RF,goInt]
   .simp only[ar];refine⟨[x',.int .i64 (i:Int)],rfl,?_⟩;simp only[ai];exact⟨_,_,rfl,ar.step st C J ha,_,_,rfl,by simp only[ar],rfl⟩
 .rename_i N;obtain⟨Z,lg,G⟩:=KB S s Y B D N
  cases Z with
  | some q'=>simp only[vc] at G
  | none =>
   cases d
   obtain⟨st,J,r⟩:=Nn (fs:=A++[(j.ev e,z)]) (ents:=ents.push { key:=a.eval y,val:=g,born:=A.length }) C U
    (by rw[aba,abB,aba];exact zj B (by simp only[aaD,aaJ,ai];exact⟨_,_,rfl,s,rfl⟩))
    (by rw[aba,abB,aba];exact zj D (by simp only[aaD,aaJ,ai];exact⟨_,_,rfl,DQ,rfl⟩))
    (λk x m=>by
     rw[acj] at m;split at m
     .rename_i DR;cases m;rw[<-E];exact DR.symm
     .exact W k x m)
   refine⟨.value (.tuple #[g,.int .i64 (A.length:Int)]),_,_,F _ _ ?_,?_,st,J,r⟩
   .simp only[Instr.mapEntry,L.2,Sem.run_bind,run_underlying hu,Result.andThen_ok,gh,mV,lg,l,b_,aaF,abg,aby,Sem.run_pure,goInt]
   .simp only[ar];refine⟨[g,.int .i64 (A.length:Int)],rfl,?_⟩;simp only[ai];exact⟨_,_,rfl,ar.step st C J DQ,_,_,rfl,by simp only[ar],rfl⟩
 .cases d
def zvc{ents:Array MapEntry}{i:Nat}(hi:i<ents.size)(a:∀(i:Nat) (x:MapEntry),ents[i]?=some x->x.born=i):ents.findIdx? (λb=>(b.born:Int)==(i:Int))=some i:=by rw[Array.findIdx?_eq_some_iff_getElem];refine⟨hi,by simp[a i _ (aa2 hi)],λj c=>?_⟩;have:=a j _ (aa2 (show j<ents.size by omega));simp[this];omega
def zHK{t:TypeId}{x y z:Operand}{A B sz:X}{base:Nat}(L:o.op=.entryStore t x y z)(N:aJ M.fm x A=true)(O:aJ M.fm y B=true)(Q:aJ M.fm z sz=true)
  (g:bn M w e a n) (C:aI M w H) (b:aU base e H (.FA A B sz)=some (v,H1)):dj P o a M H w v H1:=by
 have h:=fQ N g;have j:=fQ O g;have R:=fQ Q g;simp only[aU] at b;split at b
 case h_2=>cases b
 rename_i id k i S T;split at b
 case h_2=>cases b
 rename_i D E;split at b
 case isFalse=>cases b
 rename_i U;split at b
 case h_2=>cases b
 rename_i p l;cases b;obtain⟨i,rfl⟩:=Int.eq_ofNat_of_zero_le U;simp only[Int.toNat_natCast] at l |-;rw[S] at h;rw[T] at j;simp only[ar] at h j;have F:=C.rel id _ E;simp only[aM] at F;obtain⟨_,ents,G,m,V,I⟩:=F
 have d:ents.size=D.length:=by have:=ik m;simpa using this
 have J:i<ents.size:=by rw[d];exact(aae.1 l).1
 obtain⟨kR,q⟩:∃kR,ents[i]?=some kR:=⟨_,aa2 J⟩
 have W:ents.toList[i]?=some kR:=by rw[aaj];exact q
 have Y:=MapKept.run_getObj_map (P:=P) G;have Z:=λob=>MapKept.run_setObj_map (P:=P) ob G
 have vM:ar M w p.1 kR.key:=by obtain⟨y2,K,h3⟩:=ou m (i:=i) (c:=p.1) (by rw[aau,l];rfl);rw[aau,W] at K;cases K;exact h3
 have s:=zpO (f:=λen=>{ en with val:=a.eval z }) q
 have u:(ents.toList.set i { kR with val:=a.eval z }).map (·.key)=(ents.toList.map (·.key)).set i kR.key:=by rw[aaK]
 obtain⟨st,ii,r⟩:=Nn (fs:=D.set i (p.1,sz.ev e)) (ents:=ents.modify i λen=>{ en with val:=a.eval z }) C E
  (by rw[s,u,aaK];exact KE m vM) (by rw[s,aaK,aaK];exact KE V R)
  (zvb s q rfl I)
 refine⟨.skip,_,_,?_,rfl,st,ii,r⟩;have hf:=zvc J I;simp only[execOp,L,Instr.entryStore,h.2,j,Sem.run_bind,Y,Result.andThen_ok,asInt,asIntOf,Sem.run_pure,hf,Z,abd]
def ar.jA{c:V}{x:Value}(h:ar M w c x):ar M w c.jA x:=by
 cases c<;>first|exact h|skip
 simp only[V.jA,ar] at h |-;obtain⟨p,a,b,d,e,f,_⟩:=h;exact⟨p,a,b,d,e,f,trivial⟩
def ai.uA{g:V->V}(a:∀{c:V} {x:Value},ar M w c x->ar M w (g c) x):∀{cs:List V} {xs:List Value},ai M w cs xs->ai M w (cs.map g) xs
 | [],_,h=>by simpa only[ai,aaJ] using h
 | c::cs,_,h=>by
  simp only[ai,aaD] at h |-;obtain⟨x,b,rfl,d,e⟩:=h;exact⟨x,b,rfl,a d,ai.uA a e⟩
def V.A_(c:V):c.jA.fC=c.fC:=by cases c<;>rfl
def ar.FD{c:V}{x:Value}(h:ar M w c x):ar M w c.FD x:=by
 cases c<;>first|exact h|exact ar.jA h|skip
 simp only[V.FD,ar] at h |-;obtain⟨p,xs,a,b⟩:=h;refine⟨?_,xs,a,ai.uA ar.jA b⟩;intro c e;obtain⟨d,hd,rfl⟩:=abn.1 e;rw[V.A_];exact p d hd
end Go.Ev
namespace Go.Ev
open Go Go.RowKit
variable {P:Program} {M M':Mm} {H H1:ae} {w w':World}
def FQ(P:Program)(t:TypeId)(z:List V):Bool :=
 match P.info? t with
 | some i=>match i.zero with
  | some a=>sK a.cells.toList z
  | none=>false
 | none=>false
def KG{t:TypeId}{z:List V}(h:FQ P t z=true):∃i a,P.info? t=some i/\i.zero=some a/\sK a.cells.toList z=true:=by
 unfold FQ at h;split at h
 .rename_i i hi;split at h
  .rename_i a b;exact⟨i,a,hi,b,h⟩
  .cases h
 .cases h
def xp(P:Program)(t:TypeId)(sz:Nat):Bool:=match P.info? t with|some i=>i.size==sz|none=>false
def zx{t:TypeId}{sz:Nat}(h:xp P t sz=true):∃i,P.info? t=some i/\i.size=sz:=by
 unfold xp at h;split at h
 .rename_i i hi;exact⟨i,hi,by simpa using h⟩
 .cases h
def bN(P:Program)(fm:Fm)(o:Op)(s:dW):Bool :=
 match s with
 | .mv d=>match o with
  | .move x=>aJ fm x d
  | .assign x=>aJ fm x d
  | _=>false
 | .pick sc I J=>match o with
  | .pick c a b=>aJ fm c sc&&aJ fm a I&&aJ fm b J
  | _=>false
 | .box _ d=>match o with
  | .box _ x=>aJ fm x d
  | _=>false
 | .alloc _ z=>match o with
  | .alloc t=>FQ P t z
  | _=>false
 | .build z qs=>match o with
  | .build t r=>FQ P t z&&Wy P t&&uy fm (Kv P t) r.toList qs
  | _=>false
 | .bslice k z qs=>match o with
  | .buildSlice t A r=>match elemOf? P t with
   | some h=>k==A&&FQ P h z&&xp P h z.length&&decide (0<z.length)&&decide (k*z.length<=16777216) &&
     uy fm (λj=>some (j*z.length,z.length)) r.toList (qs.map λq=>(q.1*z.length,z.length,q.2))
   | none=>false
  | _=>false
 | .jO _ k z qs=>match o with
  | .buildSlice t A r=>match elemOf? P t with
   | some h=>k==A&&FQ P h z&&xp P h z.length&&decide (0<z.length)&&decide (k*z.length<=16777216) &&
     uy fm (λj=>some (j*z.length,z.length)) r.toList (qs.map λq=>(q.1*z.length,z.length,q.2))
   | none=>false
  | _=>false
 | .mark d=>match o with
  | .convert st dt x=>st==dt&&(match P.underlying st with|some (.slice h)=>Kp P h .u8|_=>false)&&aJ fm x d
  | _=>false
 | .load e m _ d=>match o with
  | .load t x=>aJ fm x d&&ix P t e m
  | _=>false
 | .store e d g=>match o with
  | .store t x y=>aJ fm x d&&aJ fm y g&&xp P t e
  | _=>false
 | .p9 u d=>match o with
  | .fieldAddr t x f=>match Ko P t f u with
   | some D=>aJ fm x d&&(match P.info? D with|some i=>i.size !=0|none=>false)
   | none=>false
  | _=>false
 | .Hv u e m d=>match o with
  | .field t x f=>match Ko P t f u with
   | some D=>aJ fm x d&&ix P D e m
   | none=>false
  | _=>false
 | .re e d g=>match o with
  | .indexAddr t x y=>match elemOf? P t with
   | some h=>aJ fm x d&&aJ fm y g&&xp P h e
   | none=>false
  | _=>false
 | .m9 n e d g=>match o with
  | .indexAddr t x y=>match arrOf? P t with
   | some (k,h)=>k==n&&aJ fm x d&&aJ fm y g&&xp P h e
   | none=>false
  | _=>false
 | .idx n e m d g=>match o with
  | .index t x y=>match arrOf? P t with
   | some (k,h)=>k==n&&aJ fm x d&&aJ fm y g&&ix P h e m
   | none=>false
  | _=>false
 | .bin E d g=>match o with
  | .binOp p _ x y _=>E==p&&aJ fm x d&&aJ fm y g
  | _=>false
 | .beq neg d g=>match o with
  | .binOp p v x y _=>p==(if neg then .neq else .eql)&&Rt P v&&aJ fm x d&&aJ fm y g
  | _=>false
 | .un E d=>match o with
  | .unOp p _ x=>E==p&&aJ fm x d
  | _=>false
 | .conv k d=>match o with
  | .convert st dt x=>(P.underlying st).isSome&&Kp P dt k&&aJ fm x d
  | _=>false
 | .mkfn f F=>match o with
  | .makeFunc (.func K) first L=>K==fm f&&first.isEmpty&&qu fm L.toList F
  | _=>false
 | .ext i d=>match o with
  | .extract x M=>i==M&&aJ fm x d
  | _=>false
 | .len st d=>match o with
  | .call { callee:=.builtin .len,args,argTypes }=>match args.toList,argTypes.toList with
   | [x],[t]=>aJ fm x d&&(if st then CF P t else(elemOf? P t).isSome)
   | _,_=>false
  | _=>false
 | .app _ e bytes d g=>match o with
  | .call { callee:=.builtin .append,args,argTypes }=>match args.toList,argTypes.toList with
   | [x,y],[t,N]=>aJ fm x d&&aJ fm y g&&Wp P t N e bytes
   | _,_=>false
  | _=>false
 | .slc e d B C G=>match o with
  | .slice t x lo hi H=>match elemOf? P t with
   | some h=>aJ fm x d&&xp P h e&&oA fm lo B&&oA fm hi C&&oA fm H G
   | none=>false
  | _=>false
 | .rf d=>match o with
  | .nilCheck x=>aJ fm x d
  | _=>false
 | .qt _ bytes z d=>match o with
  | .makeSlice t l c=>match elemOf? P t with
   | some h=>aJ fm l d&&aJ fm c d&&FQ P h z&&xp P h z.length&&decide (0<z.length)&&(match P.info? h with|some i=>i.bytes==bytes&&decide (0<bytes)|none=>false)
   | none=>false
  | _=>false
 | .Hw O neg d g=>match o with
  | .binOp p v x y _=>p==(if neg then .neq else .eql)&&vb P 20 v==some O&&!P.eqGuardType P.depth v&&fU P v&&aJ fm x d&&aJ fm y g
  | _=>false
 | .p_ k neg d=>match o with
  | .binOp p v x y _=>p==(if neg then .neq else .eql)&&WL P k v y&&aJ fm x d
  | _=>false
 | .mm H xs=>match o with
  | .call { callee:=.builtin b,args,argTypes:=_ }=>(match b,H with|.max,true=>true|.min,false=>true|_,_=>false)&&qu fm args.toList xs
  | _=>false
 | .xe d g=>match o with
  | .index t x y=>CF P t&&aJ fm x d&&aJ fm y g
  | _=>false
 | .sslc d B C=>match o with
  | .slice t x lo hi none=>CF P t&&aJ fm x d&&oA fm lo B&&oA fm hi C
  | _=>false
 | .ri _=>match o with
  | .makeMap _ none=>true
  | _=>false
 | .ur ky Q z d g=>match o with
  | .lookup t x y R=>match mapOf? P t with
   | some (w,h)=>Q==R&&mD P w ky&&KD P h z&&aJ fm x d&&aJ fm y g
   | none=>false
  | _=>false
 | .vw ky z d g=>match o with
  | .mapEntry t x y=>match mapOf? P t with
   | some (w,h)=>mD P w ky&&KD P h z&&aJ fm x d&&aJ fm y g
   | none=>false
  | _=>false
 | .FA d g e=>match o with
  | .entryStore _ x y z=>aJ fm x d&&aJ fm y g&&aJ fm z e
  | _=>false
 | .mput ky d g e=>match o with
  | .insert t x y z=>match mapOf? P t with
   | some (w,_)=>mD P w ky&&aJ fm x d&&aJ fm y g&&aJ fm z e
   | none=>false
  | .mapUpdate t x y z=>match mapOf? P t with
   | some (w,_)=>mD P w ky&&aJ fm x d&&aJ fm y g&&aJ fm z e
   | none=>false
  | _=>false
 | .FB _ d=>match o with
  | .range t x=>CF P t&&aJ fm x d
  | _=>false
 | .yk d=>match o with
  | .next x true=>aJ fm x d
  | _=>false
 | .loadR e m _ d=>match o with
  | .load t x=>aJ fm x d&&ix P t e m
  | _=>false
 | .storeA e _ d g=>match o with
  | .store t x y=>aJ fm x d&&aJ fm y g&&xp P t e
  | _=>false
 | .loadA e m _ d=>match o with
  | .load t x=>aJ fm x d&&ix P t e m
  | _=>false
 | .storeT e _ d g=>match o with
  | .store t x y=>aJ fm x d&&aJ fm y g&&xp P t e
  | _=>false
 | .tv e m d=>match o with
  | .load t x=>aJ fm x d&&ix P t e m
  | _=>false
 | .jX _ e d g=>match o with
  | .store t x y=>aJ fm x d&&aJ fm y g&&xp P t e
  | _=>false
 | .bsliceR _ k z qs=>match o with
  | .buildSlice t A r=>match elemOf? P t with
   | some h=>k==A&&FQ P h z&&xp P h z.length&&decide (0<z.length)&&decide (k*z.length<=16777216) &&
     uy fm (λj=>some (j*z.length,z.length)) r.toList (qs.map λq=>(q.1*z.length,z.length,q.2))
   | none=>false
  | _=>false
 | .xf n e d B C=>match o with
  | .slice t x lo hi none=>match arrOf? P t with
   | some (k,h)=>k==n&&aJ fm x d&&xp P h e&&oA fm lo B&&oA fm hi C
   | none=>false
  | _=>false
 | .FC e d g=>match o with
  | .call { callee:=.builtin .copy,args,argTypes }=>match args.toList,argTypes.toList with
   | [x,y],[t,_]=>match elemOf? P t with
    | some h=>aJ fm x d&&aJ fm y g&&xp P h e
    | none=>false
   | _,_=>false
  | _=>false
 | .Hx d=>match o with
  | .convert st dt x=>(match P.underlying st with|some (.slice h)=>Kp P h .u8|_=>false)&&CF P dt&&aJ fm x d
  | _=>false
 | .Hy d=>match o with
  | .convert st dt x=>(match P.underlying st with|some (.int _)=>true|_=>false)&&CF P dt&&aJ fm x d
  | _=>false
 | .pcall _ _|.scall _ _|.kcall _ _ _|.vcall _ _ _|.scallA _ _ _|.scallE _ _=>false
section
variable {a:Act} {n:Nat} {e:Env} {H1:ae} {o:Oper} {v:V}
def zn1:∀{es:List (List V)} {s:List UInt8},CE es=some s->∃a:List Int,es=a.map (λn=>[V.int .u8 n])/\s=a.map λn=>ab8 n.toNat
 | [],s,h=>by simp only[CE,aab.injEq] at h;exact⟨[],rfl,by rw[<-h];rfl⟩
 | e::es,s,h=>by
  unfold CE at h;split at h
  .rename_i b;cases b
  .rename_i m i c;cases c;split at h
   case h_2=>cases h
   rename_i j d;cases h;obtain⟨a,f,g⟩:=zn1 d;exact⟨m::a,by rw[f];rfl,by rw[g];rfl⟩
  .cases h
def zrb:∀(a:List Int) (r:ByteArray),a.foldl (λr n=>r.push (ab8 n.toNat)) r=⟨(r.data.toList++a.map λn=>ab8 n.toNat).toArray⟩
 | [],r=>by simp
 | n::a,r=>by
  rw[ab6,zrb a];simp[ByteArray.push]
def zto:∀{a:List Int} {xs:List Value},ai M w (a.map λn=>V.int .u8 n) xs->xs=a.map (Value.int .u8)
 | [],xs,h=>by simpa[ai] using h
 | n::a,xs,h=>by
  simp only[aaD,ai,ar] at h;obtain⟨x,b,rfl,rfl,h⟩:=h;rw[zto h];rfl
def zHL{st dt:TypeId}{k:IntKind}{x:Operand}{d:X}{base:Nat}(g:o.op=.convert st dt x)(h:aJ M.fm x d=true)(i:P.underlying st=some (.int k))(hd:P.underlying dt=some .string)
  (j:bn M w e a n) (l:aI M w H) (b:aU base e H (.Hy d)=some (v,H1)):dj P o a M H w v H1:=by
 have c:=fQ h j;simp only[aU] at b;split at b
 case h_2=>cases b
 rename_i m f p;cases b;rw[p] at c;simp only[ar] at c;refine .plain (rv:=.string (Utf8.encode f)) l ?_ (by simp only[ar]);have q:=run_convert_int_string (P:=P) w st dt m f (by rw[i];rfl) hd;simp[execOp,g,c,q]
def zHM{st dt q:TypeId}{x:Operand}{B:X}{base:Nat}(G:o.op=.convert st dt x)(I:aJ M.fm x B=true)(J:P.underlying st=some (.slice q))(K:P.underlying q=some (.int .u8))(hd:P.underlying dt=some .string)
  (L:bn M w e a n) (N:aI M w H) (g:aU base e H (.Hx B)=some (v,H1)):dj P o a M H w v H1:=by
 have r:=fQ I L;simp only[aU] at g;split at g
 case h_2=>cases g
 rename_i i tk C;split at g
 case h_2=>cases g
 rename_i s D;cases g;rw[C] at r;obtain⟨c,k,t⟩:=zn1 D;simp only[ar] at r;obtain⟨_,m,d,E,O,l,_⟩:=r;refine .plain (rv:=.string ⟨s.toArray⟩) N ?_ (by simp only[ar]);have Q:=run_convert_bytes_string (P:=P) w st dt q m i.length d J K hd
 have R:(Conv.bytesToString (.slice m i.length d)).run P w=.ok (.string ⟨s.toArray⟩) w:=by
  cases m with
  | none =>
   obtain⟨rfl,rfl⟩:=l
   have:c=[]:=by simpa using k.symm
   subst this;rw[t];simp[Conv.bytesToString]
   rfl
  | some m =>
   obtain⟨b,y,sp⟩:=m;obtain⟨p,_,l⟩:=l
   have F:i.length=c.length:=by rw[k];simp
   rw[run_bytesToString w ⟨b,y,sp⟩ i.length d c ?_,zrb,t]
   .rfl
   .rw[F,<-aaw (f:=Value.int .u8) (as:=c)]
    by_cases z:i=[]
    .have:c=[]:=by rw[z] at k;simpa using k.symm
     subst this;exact run_loadCells_list w _ _ (λj v h=>by simp at h)
    have p:=p.resolve_left z;simp only at p l;subst p;obtain⟨xs,A,S⟩:=Rw l
    have T:i.flatten=c.map λn=>V.int .u8 n:=by rw[k];clear A F z k C t D l O E;induction c with
     | nil=>rfl
     | cons n c U=>simp only[aaD,aaH,U];rfl
    rw[T] at A;rw[<-zto A];refine run_loadCells_list w _ _ λj u W=>?_;rw[Addr.add_mid];exact S j u W
 simp[execOp,G,E,Q,R]
end
def Nq{α:Type}{xs:Array α}{x:α}(h:xs.toList=[x]):xs=#[x]:=by apply abc;simpa using h
def DS{α:Type}{xs:Array α}{x y:α}(h:xs.toList=[x,y]):xs=#[x,y]:=by apply abc;simpa using h
def zAx{e:Env}{a:Act}{n base:Nat}{o:Oper}{v:V}{s:dW}(d:bN P M.fm o.op s=true)(q:bn M w e a n)(j:aI M w H)(h:aU base e H s=some (v,H1)) :
  dj P o a M H w v H1:=by
 cases s with
 | mv A =>
  simp only[bN] at d;simp only[aU,aab.injEq,abW.injEq] at h;obtain⟨rfl,rfl⟩:=h;split at d
  .rename_i x g;exact zFl (.inl g) d q j
  .rename_i x g;exact zFl (.inr g) d q j
  .cases d
 | pick sc sa sb =>
  simp only[bN] at d;simp only[aU] at h;split at d
  case h_2=>cases d
  rename_i c x y g;simp only[aaa] at d;split at h
  case h_2=>cases h
  rename_i b hb;cases h
  exact zFP g d.1.1 d.1.2 d.2 q j hb
 | box sl A =>
  simp only[bN] at d;simp only[aU] at h;split at d
  case h_2=>cases d
  rename_i t x g;split at h
  case h_2=>cases h
  rename_i cs O;split at h
  case isFalse=>cases h
  rename_i hf;cases h
  exact zHx g d q j O hf
 | alloc sl z =>
  simp only[bN] at d;simp only[aU] at h;split at d
  case h_2=>cases d
  rename_i t g;split at h
  case isFalse=>cases h
  rename_i hf;cases h;obtain⟨i,S,m,p,u⟩:=KG d
  exact zC2 g m p u j hf
 | build z qs =>
  simp only[bN] at d;split at d
  case h_2=>cases d
  rename_i t ps g;simp only[aaa] at d;obtain⟨i,S,m,p,u⟩:=KG d.1.1
  exact zC7 g m p u d.1.2 d.2 q j h
 | bslice k z qs =>
  simp only[bN] at d;split at d
  case h_2=>cases d
  rename_i t k' ps g;split at d
  case h_2=>cases d
  rename_i F B;simp only[aaa,beq_iff_eq,decide_eq_true_eq] at d;obtain⟨⟨⟨⟨⟨rfl,T⟩,U⟩,W⟩,X⟩,D⟩:=d;obtain⟨i,S,m,p,u⟩:=KG T;obtain⟨i',K,Q⟩:=zx U;rw[m] at K;cases K
  exact zAu g B m Q W X p u D q j h
 | jO sl k z qs =>
  simp only[bN] at d;split at d
  case h_2=>cases d
  rename_i t k' ps g;split at d
  case h_2=>cases d
  rename_i F B;simp only[aaa,beq_iff_eq,decide_eq_true_eq] at d;obtain⟨⟨⟨⟨⟨rfl,T⟩,U⟩,W⟩,X⟩,D⟩:=d;obtain⟨i,S,m,p,u⟩:=KG T;obtain⟨i',K,Q⟩:=zx U;rw[m] at K;cases K
  exact zzh g B m Q W X p u D q j h
 | mark A =>
  simp only[bN] at d;split at d
  case h_2=>cases d
  rename_i st dt x g;simp only[aaa,beq_iff_eq] at d;obtain⟨⟨rfl,p⟩,u⟩:=d;split at p
  case h_2=>cases p
  rename_i F B
  exact zFV g u B (Kq p) q j h
 | load sz Y old A =>
  simp only[bN] at d;split at d
  case h_2=>cases d
  rename_i t x g;simp only[aaa] at d
  exact Rq g d.1 d.2 q j h
 | store sz A G =>
  simp only[bN] at d;split at d
  case h_2=>cases d
  rename_i t x y g;simp only[aaa] at d;obtain⟨i,m,p⟩:=zx d.2
  exact Rs g d.1.1 d.1.2 (by rw[m];simp[p]) q j h
 | p9 I A =>
  simp only[bN] at d;split at d
  case h_2=>cases d
  rename_i t x f g;split at d
  case h_2=>cases d
  rename_i ft zy;simp only[aaa] at d;obtain⟨m,p⟩:=d;split at p
  .rename_i i hi;exact zC3 g m zy hi (by simpa using p) q j h
  .cases p
 | Hv I sz Y A =>
  simp only[bN] at d;split at d
  case h_2=>cases d
  rename_i t x f g;split at d
  case h_2=>cases d
  rename_i ft zy;simp only[aaa] at d
  exact zHy g d.1 zy d.2 q j h
 | re sz A G =>
  simp only[bN] at d;split at d
  case h_2=>cases d
  rename_i t x y g;split at d
  case h_2=>cases d
  rename_i F B;simp only[aaa] at d;obtain⟨i,m,p⟩:=zx d.2
  exact zC4 g d.1.1 d.1.2 B m p q j h
 | m9 len sz A G =>
  simp only[bN] at d;split at d
  case h_2=>cases d
  rename_i t x y g;split at d
  case h_2=>cases d
  rename_i k F B;simp only[aaa,beq_iff_eq] at d;obtain⟨⟨⟨rfl,u⟩,E⟩,J⟩:=d;obtain⟨i,m,p⟩:=zx J
  exact zAq g u E B m p q j h
 | idx len sz Y A G =>
  simp only[bN] at d;split at d
  case h_2=>cases d
  rename_i t x y g;split at d
  case h_2=>cases d
  rename_i k F B;simp only[aaa,beq_iff_eq] at d;obtain⟨⟨⟨rfl,u⟩,E⟩,J⟩:=d
  exact zHz g u E B J q j h
 | bin op A G =>
  simp only[bN] at d;split at d
  case h_2=>cases d
  rename_i yA xt x y yt g;simp only[aaa,beq_iff_eq] at d;obtain⟨⟨rfl,u⟩,E⟩:=d
  exact zHA g u E q j h
 | beq neg A G =>
  simp only[bN] at d;split at d
  case h_2=>cases d
  rename_i yA xt x y yt g;simp only[aaa,beq_iff_eq] at d;obtain⟨⟨⟨rfl,p⟩,u⟩,E⟩:=d
  exact zHB g u E (Rv p) q j h
 | un op A =>
  simp only[bN] at d;split at d
  case h_2=>cases d
  rename_i yA xt x g;simp only[aaa,beq_iff_eq] at d;obtain⟨rfl,u⟩:=d
  exact zMT g u q j h
 | conv k A =>
  simp only[bN] at d;split at d
  case h_2=>cases d
  rename_i st dt x g;simp only[aaa] at d;obtain⟨sd,RD⟩:=aaI.1 d.1.1
  exact zFQ g d.2 RD (Kq d.1.2) q j h
 | mkfn f ha =>
  simp only[bN] at d;simp only[aU,aab.injEq,abW.injEq] at h;obtain⟨rfl,rfl⟩:=h;split at d
  case h_2=>cases d
  rename_i f' first Np g
  simp only[aaa,beq_iff_eq,Array.isEmpty_iff] at d;obtain⟨⟨m,rfl⟩,u⟩:=d
  exact zFR g m u q j
 | ext i A =>
  simp only[bN] at d;split at d
  case h_2=>cases d
  rename_i x i' g;simp only[aaa,beq_iff_eq] at d;obtain⟨rfl,u⟩:=d
  exact zHC g u q j h
 | len st A =>
  simp only[bN] at d;split at d
  case h_2=>cases d
  rename_i L C g;split at d
  case h_2=>cases d
  rename_i x t m p;rw[Nq m,Nq p] at g;simp only[aaa] at d;refine zHD g d.1 ?_ q j h
  cases st with
  | true=>simpa using CG (by simpa using d.2)
  | false=>simp only[aap,if_false] at d |-;exact aaI.1 d.2
 | app sl sz bytes A G =>
  simp only[bN] at d;split at d
  case h_2=>cases d
  rename_i L C g;split at d
  case h_2=>cases d
  rename_i x y t t' m p;rw[DS m,DS p] at g;simp only[aaa] at d
  exact zHE g d.1.1 d.1.2 d.2 q j h
 | slc sz A pI qw he =>
  simp only[bN] at d;split at d
  case h_2=>cases d
  rename_i t x lo hi mx g;split at d
  case h_2=>cases d
  rename_i F B;simp only[aaa] at d;obtain⟨⟨⟨⟨m,p⟩,u⟩,E⟩,J⟩:=d;obtain⟨i,N,Z⟩:=zx p
  exact zHF g m B N Z u E J q j h
 | rf A =>
  simp only[bN] at d;split at d
  case h_2=>cases d
  rename_i x g
  exact zC5 g d q j h
 | qt s bytes z A =>
  simp only[bN] at d;split at d
  case h_2=>cases d
  rename_i t l c g;split at d
  case h_2=>cases d
  rename_i F B;simp only[aaa,decide_eq_true_eq] at d;obtain⟨⟨⟨⟨⟨m,p⟩,u⟩,E⟩,J⟩,N⟩:=d;obtain⟨i,S,Z,h8,h9⟩:=KG u;obtain⟨i',K,Q⟩:=zx E;rw[Z] at K;cases K;rw[Z] at N;simp only[aaa,beq_iff_eq,decide_eq_true_eq] at N
  exact zFU g m p B Z Q N.1 N.2 J h8 h9 q j h
 | Hw ks neg A G =>
  simp only[bN] at d;split at d
  case h_2=>cases d
  rename_i yA xt x y yt g;simp only[aaa,beq_iff_eq,abQ] at d;obtain⟨⟨⟨⟨⟨rfl,m⟩,p⟩,u⟩,E⟩,J⟩:=d
  exact zHH g E J m p u q j h
 | p_ k neg A =>
  simp only[bN] at d;split at d
  case h_2=>cases d
  rename_i yA xt x y yt g;simp only[aaa,beq_iff_eq] at d;obtain⟨⟨rfl,m⟩,p⟩:=d
  exact zC8 g p m q j h
 | mm mx xs =>
  simp only[bN] at d;split at d
  case h_2=>cases d
  rename_i b L ts g;simp only[aaa] at d
  have hb:b=(if mx then .max else .min):=by
   have:=d.1
   split at this<;>first|rfl|cases this
  subst hb
  exact zMU g d.2 q j h
 | xe A G =>
  simp only[bN] at d;split at d
  case h_2=>cases d
  rename_i t x y g;simp only[aaa] at d
  exact zFX g d.1.2 d.2 (CG d.1.1) q j h
 | sslc A pI qw =>
  simp only[bN] at d;split at d
  case h_2=>cases d
  rename_i t x lo hi g;simp only[aaa] at d
  exact zFY g d.1.1.2 (CG d.1.1.1) d.1.2 d.2 q j h
 | ri s =>
  simp only[bN] at d;split at d
  case h_2=>cases d
  rename_i t g
  exact zC9 g j h
 | ur ky ok z A G =>
  simp only[bN] at d;split at d
  case h_2=>cases d
  rename_i t x y Ba g;split at d
  case h_2=>cases d
  rename_i kt F R;simp only[aaa,beq_iff_eq] at d;obtain⟨⟨⟨⟨rfl,m⟩,p⟩,u⟩,E⟩:=d
  exact zFZ g u E R m p q j h
 | mput ky A G sz =>
  simp only[bN] at d;split at d
  .rename_i t x y z g;split at d
   case h_2=>cases d
   rename_i kt F R;simp only[aaa] at d;exact zxQ (.inl g) d.1.1.2 d.1.2 d.2 R d.1.1.1 q j h
  .rename_i t x y z g;split at d
   case h_2=>cases d
   rename_i kt F R;simp only[aaa] at d;exact zxQ (.inr g) d.1.1.2 d.1.2 d.2 R d.1.1.1 q j h
  .cases d
 | FB s A =>
  simp only[bN] at d;split at d
  case h_2=>cases d
  rename_i t x g;simp only[aaa] at d
  exact zHI g d.2 (CG d.1) q j h
 | yk A =>
  simp only[bN] at d;split at d
  case h_2=>cases d
  rename_i x g
  exact zHJ g d q j h
 | loadR sz Y r A =>
  simp only[bN] at d;split at d
  case h_2=>cases d
  rename_i t x g;simp only[aaa] at d;refine Rq (base:=base) (old:=false) g d.1 d.2 q j ?_;simp only[aU] at h |-;split at h
  case h_2=>cases h
  rename_i id I D;split at h
  case isFalse=>cases h
  rw[D]
  simpa[loadAt] using h
 | storeA sz rs A G =>
  simp only[bN] at d;split at d
  case h_2=>cases d
  rename_i t x y g;simp only[aaa] at d;obtain⟨i,m,p⟩:=zx d.2;refine Rs (base:=base) (sz:=sz) g d.1.1 d.1.2 (by rw[m];simp[p]) q j ?_;simp only[aU] at h |-;split at h
  case h_2=>cases h
  rename_i id I D;split at h
  case isFalse=>cases h
  rw[D];unfold storeAt at h;split at h
  .rename_i ds cs AT O;rw[AT];simp only[O];exact h
  .cases h
 | loadA sz Y rs A =>
  simp only[bN] at d;split at d
  case h_2=>cases d
  rename_i t x g;simp only[aaa] at d;refine Rq (base:=base) (old:=false) g d.1 d.2 q j ?_;simp only[aU] at h |-;split at h
  case h_2=>cases h
  rename_i id I D;split at h
  case isFalse=>cases h
  rw[D]
  simpa[loadAt] using h
 | storeT sz r A G =>
  simp only[bN] at d;split at d
  case h_2=>cases d
  rename_i t x y g;simp only[aaa] at d;obtain⟨i,m,p⟩:=zx d.2;refine Rs (base:=base) (sz:=sz) g d.1.1 d.1.2 (by rw[m];simp[p]) q j ?_;simp only[aU] at h |-;split at h
  case h_2=>cases h
  rename_i id I D;split at h
  case isFalse=>cases h
  rw[D];unfold storeAt at h;split at h
  .rename_i ds cs AT O;rw[AT];simp only[O];exact h
  .cases h
 | tv sz Y A =>
  simp only[bN] at d;split at d
  case h_2=>cases d
  rename_i t x g;simp only[aaa] at d;refine Rq (base:=base) (old:=false) g d.1 d.2 q j ?_;simp only[aU] at h |-;split at h
  case h_2=>cases h
  rename_i cs D;rw[D]
  exact h
 | jX s sz A G =>
  simp only[bN] at d;split at d
  case h_2=>cases d
  rename_i t x y g;simp only[aaa] at d;obtain⟨i,m,p⟩:=zx d.2;refine Rs (base:=base) (sz:=sz) g d.1.1 d.1.2 (by rw[m];simp[p]) q j ?_;simp only[aU] at h |-;split at h
  case h_2=>cases h
  rename_i id I D;split at h
  case isFalse=>cases h
  rw[D];unfold storeAt at h;split at h
  .rename_i ds cs AT O;rw[AT];simp only[O];exact h
  .cases h
 | Hx A =>
  simp only[bN] at d;split at d
  case h_2=>cases d
  rename_i st dt x g;simp only[aaa] at d;obtain⟨⟨m,p⟩,u⟩:=d;split at m
  case h_2=>cases m
  rename_i F hs
  exact zHM g u hs (Kq m) (CG p) q j h
 | Hy A =>
  simp only[bN] at d;split at d
  case h_2=>cases d
  rename_i st dt x g;simp only[aaa] at d;obtain⟨⟨m,p⟩,u⟩:=d;split at m
  case h_2=>cases m
  rename_i k hs
  exact zHL g u hs (CG p) q j h
 | vw ks z x k =>
  simp only[bN] at d;split at d
  case h_2=>cases d
  rename_i t x' y' g;split at d
  case h_2=>cases d
  rename_i kt F R;simp only[aaa] at d
  exact zF0 g d.1.2 d.2 R d.1.1.1 d.1.1.2 q j h
 | FA x i v =>
  simp only[bN] at d;split at d
  case h_2=>cases d
  rename_i t x' y' z' g;simp only[aaa] at d
  exact zHK g d.1.1 d.1.2 d.2 q j h
 | bsliceR sp k z qs =>
  simp only[bN] at d;split at d
  case h_2=>cases d
  rename_i t k' ps g;split at d
  case h_2=>cases d
  rename_i F B;simp only[aaa,beq_iff_eq,decide_eq_true_eq] at d;obtain⟨⟨⟨⟨⟨rfl,T⟩,U⟩,W⟩,X⟩,D⟩:=d;obtain⟨i,S,m,p,u⟩:=KG T;obtain⟨i',K,Q⟩:=zx U;rw[m] at K;cases K
  exact zzi g B m Q W X p u D q j h
 | xf len sz A pI qw =>
  simp only[bN] at d;split at d
  case h_2=>cases d
  rename_i t x lo hi g;split at d
  case h_2=>cases d
  rename_i k F B;simp only[aaa,beq_iff_eq] at d;obtain⟨⟨⟨⟨rfl,m⟩,p⟩,u⟩,E⟩:=d;obtain⟨i,J,N⟩:=zx p
  exact zFS g m B J N u E q j h
 | FC sz A G =>
  simp only[bN] at d;split at d
  case h_2=>cases d
  rename_i L C g;split at d
  case h_2=>cases d
  rename_i x y t t' eF HY;split at d
  case h_2=>cases d
  rename_i F B;simp only[aaa] at d;obtain⟨i,J,N⟩:=zx d.2;rw[DS eF,DS HY] at g
  exact zHG g d.1.1 d.1.2 B J N q j h
 | kcall ro f xs=>simp[bN] at d
 | pcall f xs=>simp[bN] at d
 | scall f xs=>simp[bN] at d
 | scallA rs f xs=>simp[bN] at d
 | scallE f xs=>simp[bN] at d
 | vcall ro f xs=>simp[bN] at d
def zz(P:Program)(fm:Fm)(f:Nat)(args:List V)(H:ae)(r:V)(H':ae):Prop :=
 H.length<=H'.length/\∀(M:Mm) (w:World) (jQ:List Value),M.fm=fm->aI M w H->ai M w args jQ ->
  ((∃ F, P.funcs[fm f]? = some F ∧ F.body.isSome = true ∧ F.name ≠ "runtime.NumGoroutine") ∧
  Calls P (fm f) jQ.toArray w λen w'=>∃rv M',en=.returned rv/\ar M' w' r rv/\eH M H w M' H' w'/\e_ M M' H.length/\aI M' w' H')
abbrev FR(ro:Option Nat):Fence:={ Fence.wide with round:=ro }
def Bb:Ex->Exit
 | .nx=>.normal
 | .exit id=>.exit id
 | .ret=>.ret
def Mk(s:Nat)(a b:Act):Prop:=∀d∈b.defers,d∈a.defers\/∃D,d.target=.collected D/\s<=D
def Mk.refl(s:Nat)(a:Act):Mk s a a:=λd h=>.inl h
def Mk.of_eq{s:Nat}{a b:Act}(h:b.defers=a.defers):Mk s a b:=λd hd=>.inl (h▸hd)
def Mk.trans{s s':Nat}{a c e:Act}(h:Mk s a c)(k:Mk s' c e)(f:s<=s'):Mk s a e:=λd hd=>by
 rcases k d hd with b|⟨D,b,g⟩
 .exact h d b
 .exact .inr ⟨D,b,an⟩
def H5(M:Mm)(H:ae)(w:World)(a:Act)(n:Nat)(k:Nat)(x:Ex)(e':Env)(H':ae)(Q:Exit->Act->World->Prop):Prop :=
 ∀b w' M',bn M' w' e' b n->aI M' w' H'->eH M H w M' H' w'->e_ M M' k->Mk w.heap.size a b->Q (Bb x) b w'
def Nr(P:Program)(fm:Fm)(s:bg)(e:Env)(H:ae)(x:Ex)(e':Env)(H':ae):Prop :=
 H.length<=H'.length/\∀(l n:Nat) (c:Code) (M:Mm) (w:World) (a:Act) (Q:Exit->Act->World->Prop),fm.u6 n s c->bn M w e a n->aI M w H->M.fm=fm ->
  H5 M H w a n H.length x e' H' Q->c.wpIn (FR (some l)) 0 P Q a w
inductive SS (P:Program) (fm:Fm) (base:Nat) (o:aF):Env->ae->Env->ae->Prop
 | ev {e H v H1}:wanted e o=some true->aU base e H o.op=some (v,H1)->SS P fm base o e H (e.put o.dst v) H1
 | skip {e H}:wanted e o=some false->SS P fm base o e H (e.put o.dst .mq) H
 | pcall {e H f xs r H1}:wanted e o=some true->o.op=.pcall f xs->zz P fm f (zq (xs.map (X.ev e))) [] r H1->SS P fm base o e H (e.put o.dst (u9 H1 r).out) H
 | scall {e H f xs r H1}:wanted e o=some true->o.op=.scall f xs->zz P fm f (xs.map (X.ev e)) H r H1->SS P fm base o e H (e.put o.dst (r.cl H.length)) (ak H.length H1)
 | scallA {e H rs f xs r H1}:wanted e o=some true->o.op=.scallA rs f xs->zz P fm f (xs.map (X.ev e)) H r H1->Kn e rs H (ak H.length H1)->SS P fm base o e H (e.put o.dst (r.cl H.length)) (ak H.length H1)
 | scallE {e H f xs r H1}:wanted e o=some true->o.op=.scallE f xs->zz P fm f (xs.map (X.ev e)) H r H1->MW base (xs.map (X.ev e)) H (ak H.length H1)->SS P fm base o e H (e.put o.dst (r.cl H.length)) (ak H.length H1)
 | kcall {e H ro f xs r H1}:wanted e o=some true->o.op=.kcall ro f xs->zz P fm f (xs.map (X.ev e)) H r H1->(ro=true->base<=H.length/\H1.take H.length=H)->SS P fm base o e H (e.put o.dst r) H1
 | vcall {e H ro fx xs f cap r H1}:wanted e o=some true->o.op=.vcall ro fx xs->fx.ev e=.fn f cap->zz P fm f (xs.map (X.ev e)++cap) H r H1->(ro=true->ak H.length H1=H) ->
   SS P fm base o e H (e.put o.dst (r.cl H.length)) (ak H.length H1)
 | ke {e H fx xs id e0 ps as bo e1 H1 f0 rm rn rq x e2 H2 g0 rr ry rz}:wanted e o=some true->o.op=.vcall false fx xs->fx.ev e=.yld id->H[id]?=some (some (.loop e0 ps as bo .ready))->xs.length=ps.length ->
   Nr P fm as (sI ps (xs.map (X.ev e)) (il e0)) H .nx e1 H1->H1[id]?=some (some (.loop f0 rm rn rq .ready))->Nr P fm bo e1 (H1.set id (some (.loop f0 rm rn rq .busy))) x e2 H2 ->
   H2[id]?=some (some (.loop g0 rr ry rz .busy)) ->
   SS P fm base o e H (e.put o.dst (.bool (decide (x=.nx)))) (ak H.length (H2.set id (some (.loop g0 rr ry rz (if x=.nx then .ready else .done x)))))
def uB(fm:Fm)(o:Op)(s:dW):Bool :=
 match s with
 | .pcall f xs=>match o with
  | .call { callee:=.value (.func a),args,argTypes:=_ }=>a==fm f&&qu fm args.toList xs
  | _=>false
 | .scall f xs=>match o with
  | .call { callee:=.value (.func a),args,argTypes:=_ }=>a==fm f&&qu fm args.toList xs
  | _=>false
 | .scallA _ f xs=>match o with
  | .call { callee:=.value (.func a),args,argTypes:=_ }=>a==fm f&&qu fm args.toList xs
  | _=>false
 | .scallE f xs=>match o with
  | .call { callee:=.value (.func a),args,argTypes:=_ }=>a==fm f&&qu fm args.toList xs
  | _=>false
 | .kcall _ f xs=>match o with
  | .call { callee:=.value (.func a),args,argTypes:=_ }=>a==fm f&&qu fm args.toList xs
  | _=>false
 | .vcall _ b xs=>match o with
  | .call { callee:=.value fo,args,argTypes:=_ }=>aJ fm fo b&&qu fm args.toList xs
  | _=>false
 | _=>false
def WZ(b:Array Oper)(g:Option (Nat×Bool))(s:Option (Nat×Bool)):Bool :=
 match g,s with
 | none,none=>true
 | some (j,a),some (t,c)=>a==c&&(match(b[j]?).bind (·.dst) with|some d=>d==t|none=>false)
 | _,_=>false
def H6(P:Program)(fm:Fm)(n:Nat)(a:Array Oper)(o:Oper)(s:aF):Bool :=
 (match o.dst,s.dst with|none,none=>true|some d,some d'=>d==d'&&decide (d<n)|_,_=>false)&&WZ a o.guard s.guard &&
  (bN P fm o.op s.op||uB fm o.op s.op)
def DT{e:Env}{a:Act}{n:Nat}{h:Array Oper}{o:Oper}{s:aF}{b:Bool}(f:WZ h o.guard s.guard=true)(p:bn M w e a n)(g:wanted e s=some b) :
  Region.wanted o (yielded h a.tmps)=b:=by
 unfold WZ at f;unfold wanted at g;unfold Region.wanted;split at f
 .rename_i k l;simp only[l,aab.injEq] at g;simp only[k];exact g
 .rename_i j q t v k l;simp only[l] at g;simp only[k];simp only[aaa,beq_iff_eq] at f;obtain⟨rfl,f⟩:=f;split at f
  case h_2=>cases f
  rename_i d hd;simp only[beq_iff_eq] at f;subst f;split at g
  case h_3=>cases g
  case h_2 =>
   rename_i m;simp only[aab.injEq] at g;subst g;have:=p.rel d;rw[m] at this;simp only[ar] at this
   have r:yielded h a.tmps j=none:=by
    unfold yielded;simp only[hd,Option.bind_some];rw[aaA] at this
    cases i:a.tmps[d]? with
    | none=>rfl
    | some x=>rw[i] at this;simp only[ab2] at this;subst this;rfl
   rw[r];rfl
  rename_i c m;simp only[aab.injEq] at g;subst g;have:=p.rel d;rw[m] at this;simp only[ar] at this
  have u:a.tmps[d]?=some (.bool c):=by
   rw[aaA] at this
   cases i:a.tmps[d]? with
   | none=>rw[i] at this;simp[undef] at this
   | some x=>rw[i] at this;simp at this;rw[this]
  simp[yielded,hd,u]
 .cases f
def zDa{e:Env}{a:Act}{n:Nat}{d:Option Nat}{v:V}{rv:Value}(b:bn M w e a n)(hd:∀k,d=some k->k<n)(c:d.isSome=true->ar M w v rv):bn M w (e.put d v) (a.put d rv) n:=by
 cases d with
 | none=>exact b
 | some k =>
  have f:=hd k rfl;refine⟨by simp[Act.put,b.size],by simpa[Act.put] using b.defers,λi=>?_,b.pa⟩;simp only[Env.jg,Act.put];have g:=b.size
  by_cases hi:i=k
  .subst hi;rw[if_pos rfl];rw[aaA,abv an];exact c rfl
  .rw[if_neg hi,aaA,abG an,<-aaA];exact b.rel i
def zi6(f:aI M w H){D:Nat}{o:Option (List Deferred)}(b:w.heap[D]?=some (.deferred o)):¬u7 M H D:=by
 rintro⟨id,c⟩;unfold aV at c;split at c
 .rename_i n d;have:=f.rel id _ d;simp only[aM,c] at this;obtain⟨_,_,_,_,_,xs,e,a,_⟩:=this;rw[b] at a;cases a
 .rename_i h i d;have:=f.rel id _ d;simp only[aab.injEq] at c;subst c
  cases h with
  | zone n=>exact absurd rfl (i n)
  | cells g=>simp only[aM] at this;obtain⟨_,_,xs,e,a,_⟩:=this;rw[b] at a;cases a
  | jx g=>simp only[aM] at this;obtain⟨_,_,xs,e,a,_⟩:=this;rw[b] at a;cases a
  | map j=>simp only[aM] at this;obtain⟨_,ents,a,_⟩:=this;rw[b] at a;cases a
  | dF t pos=>simp only[aM] at this;rw[b] at this;cases this.2
  | loop k l as bo st=>simp only[aM] at this;obtain⟨_,r,a,_⟩:=this;rw[b] at a;cases a
  | grow g m p=>simp only[aM] at this;obtain⟨_,_,_,_,xs,e,a,_⟩:=this;rw[b] at a;cases a
 .cases c
def RG{a:Act}{H':ae}(h:eH M H w M' H' w')(c:aI M w H)(hd:a.defers.Nodup/\∀d∈a.defers,∃D,d={ target:=.collected D,args:=#[] }/\w.heap[D]?=some (.deferred (some []))) :
  a.defers.Nodup/\∀d∈a.defers,∃D,d={ target:=.collected D,args:=#[] }/\w'.heap[D]?=some (.deferred (some [])) :=
 ⟨hd.1,λd e=>by
  obtain⟨D,f,b⟩:=hd.2 d e
  exact⟨D,f,(h.same D (aav.1 b).1 (zi6 c b)).trans b⟩⟩
def bn.step{e:Env}{a:Act}{n:Nat}{H':ae}(h:eH M H w M' H' w')(c:aI M w H)(hi:e_ M M' H.length)(b:bn M w e a n):bn M' w' e a n :=
 ⟨b.size,RG h c b.defers,λi=>ar.step h c hi (b.rel i),b.pa.step h c hi⟩
open Go Go.RowKit
variable {P:Program} {M M':Mm} {H H1:ae} {w w':World} {fm:Fm}
mutual
def ar.free{M1 M2:Mm}(d:∀id,M1.al id=false)(i:∀b o,Rd M1 b o->Rd M2 b o)(h:∀f,M2.fm f=M1.fm f):∀{c:V} {x:Value},ar M1 w c x->ar M2 w c x
 | .undef,_,_=>by simp only[ar]
 | .mq,_,e=>by simpa only[ar] using e
 | .any,_,e=>by simpa only[ar] using e
 | .int _ _,_,e=>by simpa only[ar] using e
 | .bool _,_,e=>by simpa only[ar] using e
 | .str _,_,e=>by simpa only[ar] using e
 | .nilp,_,e=>by simpa only[ar] using e
 | .nilf,_,e=>by simpa only[ar] using e
 | .nilm,_,e=>by simpa only[ar] using e
 | .mp id,_,e=>by simp only[ar,d] at e;exact absurd e.1 ir
 | .yld id,_,e=>by simp only[ar,d] at e;exact absurd e.1 ir
 | .gs id k,_,e=>by simp only[ar,d] at e;exact absurd e.1 ir
 | .ptr id m,_,e=>by simp only[ar,d] at e;exact absurd e.1 ir
 | .rs id m k _,_,e=>by simp only[ar,d] at e;exact absurd e.1 ir
 | .cptr r,_,e=>by
  simp only[ar] at e |-;obtain⟨p,b,o,g,e⟩:=e
  exact⟨p,b,o,g,fL.free d i h e⟩
 | .vs t tk,_,e=>by
  simp only[ar] at e |-;obtain⟨p,a,j,g,s,l,n⟩:=e;refine⟨p,a,j,g,s,?_,?_⟩
  .cases a with
   | none=>exact l
   | some u=>exact⟨l.1,l.2.1,gE.free d i h l.2.2⟩
  .cases tk with
   | no=>trivial
   | full=>exact n
   | own q=>simp only[mr,d] at n;exact absurd n.1 ir
 | .fn f j,_,e=>by
  simp only[ar] at e |-;obtain⟨xs,g,e⟩:=e
  exact⟨xs,by rw[h];exact g,ai.free d i h e⟩
 | .agg r,_,e=>by
  simp only[ar] at e |-;obtain⟨p,xs,g,e⟩:=e
  exact⟨p,xs,g,ai.free d i h e⟩
 | .bc r,_,e=>by
  simp only[ar] at e |-;obtain⟨xs,g,e⟩:=e;exact⟨xs,g,ai.free d i h e⟩
def ai.free{M1 M2:Mm}(a:∀id,M1.al id=false)(d:∀b o,Rd M1 b o->Rd M2 b o)(g:∀f,M2.fm f=M1.fm f):∀{cs:List V} {xs:List Value},ai M1 w cs xs->ai M2 w cs xs
 | [],_,e=>by simpa only[ai] using e
 | c::cs,_,e=>by
  simp only[ai] at e |-;obtain⟨x,h,i,j,k⟩:=e;exact⟨x,h,i,ar.free a d g j,ai.free a d g k⟩
def fL.free{M1 M2:Mm}(d:∀id,M1.al id=false)(a:∀b o,Rd M1 b o->Rd M2 b o)(g:∀f,M2.fm f=M1.fm f){b:Nat}:∀{cs:List V} {o:Nat},fL M1 w b cs o->fL M2 w b cs o
 | [],_,_=>by simp only[fL]
 | c::cs,o,e=>by
  simp only[fL] at e |-;obtain⟨⟨x,h,rd,i⟩,j⟩:=e;exact⟨⟨x,h,a _ _ rd,ar.free d a g i⟩,fL.free d a g j⟩
def gE.free{M1 M2:Mm}(a:∀id,M1.al id=false)(c:∀b o,Rd M1 b o->Rd M2 b o)(d:∀f,M2.fm f=M1.fm f){b:Nat}:∀{es:List (List V)} {o:Nat},gE M1 w b es o->gE M2 w b es o
 | [],_,_=>by simp only[gE]
 | e::es,o,k=>by
  simp only[gE] at k |-;exact⟨fL.free a c d k.1,gE.free a c d k.2⟩
end
def ztp(M:Mm)(id:Nat):(M.upto 0).al id=false:=by simp[Mm.upto]
def zzl(H:ae):ak 0 H=[]:=by simp[ak]
def KH{o:Oper}{a:Act}{f:FuncId}{args:Array Operand}{ts:Array TypeId}{fo:Operand}{caps:Array Value}(ho:o.op=.call { callee:=.value fo,args:=args,argTypes:=ts })
  (hf : a.eval fo = .func (.func f) #[] caps) (hF : ∃ F, P.funcs[f]? = some F ∧ F.body.isSome = true ∧ F.name ≠ "runtime.NumGoroutine") :
  (execOp a.eval o).run P w=.ok (.enter f (args.map a.eval++caps)) w:=by
 obtain⟨F,h1,h2,h3⟩:=hF
 cases hb:F.body with
 | none=>rw[hb] at h2;cases h2
 | some c=>simp[execOp,ho,resolve,hf,Deferred.ofValue,invoke,callFunc,h1,h3,hb]
def ar.pure'{M1 M2:Mm}(a:∀b o,Rd M1 b o->Rd M2 b o)(d:∀f,M2.fm f=M1.fm f){c:V}{x:Value}(e:c.pure=true)(h:ar M1 w c x):ar M2 w c x:=by have:=ar.free (M1:=M1.upto 0) (M2:=M2) (λid=>ztp M1 id) a d (ar.upto 0 h);rwa[V.qR 0 c e] at this
def ar.nf{c:V}{x:Value}(h:ar M w c x):ar M w c.nf x:=by
 cases c<;>first|exact ar.FD h|skip
 simp only[V.nf,ar] at h |-;obtain⟨xs,a,b⟩:=h;exact⟨xs,a,ai.uA ar.FD b⟩
def zDb{cs:List V}{xs:List Value}(h:ai M w (aZ 0 cs) xs):ai M w (zq cs) xs:=by rw[g9] at h;have:=ai.uA ar.nf h;rw[abz] at this;exact this
def zvd{H':ae}{M2:Mm}{r:V}{rv:Value}(h:ar M' w' r rv)(z:aI M' w' H')(s:∀b o,Rd M' b o->Rd M2 b o)(A:∀b,u7 M' H' b->∀o,Rd M2 b o)(t:∀f,M2.fm f=M'.fm f):ar M2 w' ((zp H' r).cl 0) rv:=by
 have a:ar M2 w' (r.cl 0) rv:=ar.free (M1:=M'.upto 0) (λid=>ztp M' id) s t (ar.upto 0 h)
 cases r<;>simp only[zp]<;>try exact a
 rename_i id g n sz
 cases u:H'[id]? with
 | none=>exact a
 | some B=>cases B with
  | none=>exact a
  | some C=>cases C with
   | zone k=>exact a
   | jx k=>exact a
   | map k=>exact a
   | dF k q=>exact a
   | loop L M as bo st=>exact a
   | grow k q N=>exact a
   | cells cs =>
    simp only
    by_cases d:g+n*sz<=cs.length/\cs.all V.pure=true
    .rw[if_pos d];obtain⟨D,l⟩:=d;have l:=abD.1 l;simp only[ar] at h;obtain⟨O,m,rfl,E⟩:=h;have v:=z.rel id _ u;simp only[aM] at v;obtain⟨_,_,xs,F,G,H⟩:=v;obtain⟨I,w,y⟩:=RC (sz:=sz) (k:=n) (cs:=cs.drop g) (by rw[aas];omega);have J:u7 M' H' (M'.j id):=⟨id,by simp[aV,u]⟩;simp only[V.cl,Tk.cl,ar];refine⟨λe h c d=>l c (aao ((y e h).2 c d)),some ⟨M'.j id,g,none⟩,m,by rw[w],by rw[w];exact E,⟨.inr rfl,⟨sz,λe h=>(y e h).1⟩,?_⟩,trivial⟩
     rw[Kl,I];refine DG λi c d=>?_;rw[aaE] at d;split at d
     .rw[abh] at d;obtain⟨x,K,p⟩:=ou H d;refine⟨x,?_,A _ J _,ar.pure' s t (l c (acg d)) p⟩;rw[cell_of_row w' (M'.j id) (g+i) xs F (0,0) G];exact Rr K
     .cases d
    .rw[if_neg d];exact a
def zF1{H':ae}{M2:Mm}{r:V}{rv:Value}(a:ar M' w' r rv)(d:aI M' w' H')(e:∀b o,Rd M' b o->Rd M2 b o)(g:∀b,u7 M' H' b->∀o,Rd M2 b o)(h:∀f,M2.fm f=M'.fm f):ar M2 w' ((u9 H' r).cl 0) rv:=by
 cases r<;>simp only[u9]<;>try exact zvd a d e g h
 rename_i vs;simp only[ar] at a;obtain⟨xs,rfl,a⟩:=a;simp only[V.cl,ar];refine⟨xs,rfl,?_⟩;rw[g9,abz];refine AJ (by have:=ik a;simpa using this) λi c x j l=>?_;rw[aau,aai] at j;obtain⟨u,m,rfl⟩:=j;obtain⟨p,k,n⟩:=ou a m;rw[l] at k;cases k;exact zvd n d e g h
def zAy(j:aI M w H){H':ae}{r:V}{rv:Value}(k:ar M' w' r rv)(a:eH (M.upto 0) [] w M' H' w')(m:aI M' w' H') :
  ∃e,eH M H w e H w'/\e_ M e H.length/\aI e w' H/\ar e w' (u9 H' r).out rv:=by
 have h:∀b,¬u7 (M.upto 0) [] b:=by rintro b ⟨id,n⟩;simp[aV] at n
 have g:iR w w':=⟨a.os,a.tape,a.output,a.size,λb d=>a.same b d (h b)⟩;obtain⟨s,i,p⟩:=MX (M':={ M with gS:=λb=>if b<w.heap.size then M.gS b else none }) j g ⟨rfl,rfl,rfl,rfl,λb d=>by simp[d]⟩;refine⟨_,s,i,p,?_⟩;refine ar.nf (zF1 (M2:={ M with gS:=λb=>if b<w.heap.size then M.gS b else none }) k m (λb o rd l c=>?_) (λb q o l c=>?_) (λf=>by rw[a.fm];rfl))
 .simp only at c;split at c
  .rename_i d;exact rd l (by rw[a.limo b d (h b)];exact c)
  .cases c
 .simp only at c;split at c
  .rename_i d;exact absurd (a.own b d q) (h b)
  .cases c
def FU{ro:Option Nat}{ρ:Operand->Value}{o:Oper}(h:∀c,o.op≠.defer c):Oper.semAt ro ρ o=execOp ρ o:=by
 cases ro with
 | none=>rfl
 | some l=>exact Oper.semAt_some l ρ o h
def H7{ro:Option Nat}{n:Nat}{f:FuncId}{args:Array Value}{R:Ending->World->Prop}(h:Calls P f args w R):CallsIn (FR ro) n P f args w R:=(callsIn_wide (n:=n)).2 h
def zzm{o:Op}{s:dW}(h:bN P fm o s=true):∀c,o≠.defer c:=by
 rintro c rfl
 cases s<;>simp[bN] at h
def W3(d:aI M w H){id:Nat}{e0:List (Nat×V)}{ps:List Nat}{as bo:bg}{st st':AI}{r r':Loop}(a:H[id]?=some (some (.loop e0 ps as bo st)))(g:w.heap[M.j id]?=some (.loop r))(c:r'.tmps=r.tmps)(e:r'.params=r.params)(l:r'.assign=r.assign)(m:r'.body=r.body)
  (n:V4 st' r'):∃M',eH M H w M' (H.set id (some (.loop e0 ps as bo st'))) (w.putObj (M.j id) (.loop r'))/\e_ M M' H.length/\aI M' (w.putObj (M.j id) (.loop r')) (H.set id (some (.loop e0 ps as bo st')))/\M'.j=M.j:=by
 have h:=d.rel id _ a;simp only[aM] at h;obtain⟨o,A,k,B,t,u,v,x⟩:=h;rw[g] at k;cases k;have y:=(aav.1 g).1
 obtain⟨s,i,q⟩:=Rm (blk1:=.loop e0 ps as bo st') (w':=w.putObj (M.j id) (.loop r')) d a rfl rfl o 0 rfl rfl rfl World.putObj_size (λb a=>World.putObj_heap_other a) λf z=>by
  simp only[aM];refine⟨by simp[Mm.cK],r',World.putObj_heap_same y,n,?_,by rw[c,l];exact u,by rw[c,m];exact v,λp e=>by rw[c];exact ar.step f d z (x p e)⟩;rw[LPs,e,c];exact t
 exact⟨_,s,i,q,rfl⟩
def zve:∀{ps:List Nat} {vs:List V} {xs:List Value} {tmps:Array Value} {e:Env},ai M w vs xs->(∀p∈ps,p<tmps.size)->ps.length=vs.length->(∀i,ar M w (e i) (tmps.getD i undef)) ->
  (∀i,ar M w (sI ps vs e i) (((ps.zip xs).foldl (fun(t:Array Value) (q:Nat×Value)=>t.setIfInBounds q.1 q.2) tmps).getD i undef))/\((ps.zip xs).foldl (fun(t:Array Value) (q:Nat×Value)=>t.setIfInBounds q.1 q.2) tmps).size=tmps.size
 | [],[],xs,tmps,e,h,_,_,b=>by
  simp only[ai] at h;subst h
  exact⟨b,rfl⟩
 | [],_::_,_,_,_,_,_,a,_=>by simp at a
 | _::_,[],_,_,_,_,_,a,_=>by simp at a
 | p::ps,v::vs,xs,tmps,e,h,c,a,b=>by
  simp only[ai] at h;obtain⟨x,d,rfl,f,g⟩:=h;have j:=c p ir
  have:=zve (ps:=ps) (vs:=vs) (xs:=d) (tmps:=tmps.setIfInBounds p x) (e:=e.put (some p) v) g (λq k=>by simpa using c q (by simp[k])) (by simpa using a) (λi=>by
   simp only[Env.jg]
   by_cases hi:i=p
   .subst hi;rw[if_pos rfl,aaA,abv j];exact f
   .rw[if_neg hi,aaA,abG an,<-aaA]
    exact b i)
  exact⟨this.1,by rw[acr,ab6,this.2];simp⟩
def zxR{tmps:Array Value}:∀{e0:List (Nat×V)},(∀p∈e0,ar M w p.2 (tmps.getD p.1 undef))->∀i,ar M w (il e0 i) (tmps.getD i undef)
 | [],_,i=>by simp only[il,ar]
 | (d,v)::e0,h,i=>by
  simp only[il];split
  .rename_i hi;subst hi;exact h (i,v) ir
  .exact zxR (λp a=>h p (by simp[a])) i
def SS.sound{ro:Option Nat}{base n:Nat}{s:aF}{o:Oper}{hh:Array Oper}{e e1:Env}{a:Act}(h:SS P fm base s e H e1 H1)(c:H6 P fm n hh o s=true)(p:bn M w e a n)(J:aI M w H)(hm:M.fm=fm)
  {K:Act->World->Prop} {Q:Exit->Act->World->Prop}
  (hk:∀a' w' M',bn M' w' e1 a' n->aI M' w' H1->eH M H w M' H1 w'->e_ M M' H.length->a'.defers=a.defers->K a' w') :
  if Region.wanted o (yielded hh a.tmps)=true then o.wpIn (FR ro) 0 P a w K Q else(∀f,o.about P w a.eval=some f->(FR ro).fn f)/\K (a.put o.dst undef) w:=by
 subst hm;unfold H6 at c;simp only[aaa,ab5] at c;obtain⟨⟨hd,V⟩,c⟩:=c
 have W4:o.dst=s.dst/\∀k,s.dst=some k->k<n:=by
  split at hd
  .rename_i B D;exact⟨by rw[B,D],λk hk=>by rw[D] at hk;cases hk⟩
  .rename_i d d' B D;simp only[aaa,beq_iff_eq,decide_eq_true_eq] at hd;obtain⟨rfl,hd⟩:=hd;exact⟨by rw[B,D],λk hk=>by rw[D] at hk;cases hk;exact hd⟩
  .cases hd
 obtain⟨RI,FW⟩:=W4
 have u:∀w' M' rv v,eH M H w M' H1 w'->e_ M M' H.length->aI M' w' H1->ar M' w' v rv->e1=e.put s.dst v->K (a.put o.dst rv) w':=by intro w' M' rv v B D W h4 h5;subst h5;rw[RI];exact hk _ _ _ (zDa (bn.step B J D p) FW (λ_=>h4)) W B D (by cases s.dst<;>rfl)
 cases h with
 | ev A G =>
  rw[DT V p A,if_pos rfl]
  have zA:bN P M.fm o.op s.op=true:=by
   rcases c with c|c
   .exact c
   .exfalso;unfold uB at c;split at c
    .rename_i m;rw[m] at G;simp[aU] at G
    .rename_i m;rw[m] at G;simp[aU] at G
    .rename_i m;rw[m] at G;simp[aU] at G
    .rename_i m;rw[m] at G;simp[aU] at G
    .rename_i m;rw[m] at G;simp[aU] at G
    .rename_i m;rw[m] at G;simp[aU] at G
    .cases c
  obtain⟨nx,w',M',C,Bd,B,D,W⟩:=zAx zA p J G;unfold Oper.wpIn;refine⟨λ_ _=>trivial,?_⟩;rw[FU (zzm zA),C]
  cases nx with
  | value rv=>exact u _ _ _ _ B D W Bd rfl
  | skip =>
   simp only at Bd
   exact u w' M' undef _ B D W (by rw[Bd];simp only[ar]) rfl
  | _=>exact Bd.elim
 | skip A =>
  rw[DT V p A];simp only[aap,if_false];refine⟨λ_ _=>trivial,?_⟩
  exact u w M undef .mq (eH.refl M H w) (e_.refl _ _) J (by simp only[ar]) rfl
 | pcall A y N =>
  rename_i f xs r H2;rw[DT V p A,if_pos rfl]
  have g:uB M.fm o.op s.op=true:=by
   rcases c with c|c
   .rw[y] at c;simp[bN] at c
   .exact c
  rw[y] at g;simp only[uB] at g;split at g
  case h_2=>cases g
  rename_i f' args ts z;simp only[aaa,beq_iff_eq] at g;obtain⟨rfl,I⟩:=g
  have h0:aI (M.upto 0) w []:=by have:=(AS J 0).2.2;rwa[zzl] at this
  obtain⟨O,R⟩:=N.2 (M.upto 0) w (args.toList.map a.eval) rfl h0 (zDb (ai.upto 0 (DJ I p)));have C:=KH (P:=P) (w:=w) (a:=a) (caps:=#[]) z rfl O;unfold Oper.wpIn;refine⟨λ_ _=>trivial,?_⟩;rw[FU (by rw[z];simp),C]
  have E:args.map a.eval++#[]=(args.toList.map a.eval).toArray:=by apply abc;simp
  rw[E];refine⟨λh=>by(cases h),H7 (R.mono ?_)⟩;rintro en w' ⟨rv,M',rfl,S,m,_,T⟩;obtain⟨wI,B,D,W,h4⟩:=zAy J S m T
  exact u _ _ _ _ B D W h4 rfl
 | scall A y N =>
  rename_i f xs r H2;rw[DT V p A,if_pos rfl]
  have g:uB M.fm o.op s.op=true:=by
   rcases c with c|c
   .rw[y] at c;simp[bN] at c
   .exact c
  rw[y] at g;simp only[uB] at g;split at g
  case h_2=>cases g
  rename_i f' args ts z;simp only[aaa,beq_iff_eq] at g;obtain⟨rfl,I⟩:=g;obtain⟨O,R⟩:=N.2 M w (args.toList.map a.eval) rfl J (DJ I p);have C:=KH (P:=P) (w:=w) (a:=a) (caps:=#[]) z rfl O;unfold Oper.wpIn;refine⟨λ_ _=>trivial,?_⟩;rw[FU (by rw[z];simp),C]
  have E:args.map a.eval++#[]=(args.toList.map a.eval).toArray:=by apply abc;simp
  rw[E];refine⟨λh=>by(cases h),H7 (R.mono ?_)⟩;rintro en w' ⟨rv,M',rfl,S,m,hi,T⟩;obtain⟨U,L,X⟩:=AS T H.length
  exact u _ _ _ _ (m.trans U) (hi.trans L (aah _)) X (ar.upto _ S) rfl
 | scallA A y N _ =>
  rename_i rs f xs r H2;rw[DT V p A,if_pos rfl]
  have g:uB M.fm o.op s.op=true:=by
   rcases c with c|c
   .rw[y] at c;simp[bN] at c
   .exact c
  rw[y] at g;simp only[uB] at g;split at g
  case h_2=>cases g
  rename_i f' args ts z;simp only[aaa,beq_iff_eq] at g;obtain⟨rfl,I⟩:=g;obtain⟨O,R⟩:=N.2 M w (args.toList.map a.eval) rfl J (DJ I p);have C:=KH (P:=P) (w:=w) (a:=a) (caps:=#[]) z rfl O;unfold Oper.wpIn;refine⟨λ_ _=>trivial,?_⟩;rw[FU (by rw[z];simp),C]
  have E:args.map a.eval++#[]=(args.toList.map a.eval).toArray:=by apply abc;simp
  rw[E];refine⟨λh=>by(cases h),H7 (R.mono ?_)⟩;rintro en w' ⟨rv,M',rfl,S,m,hi,T⟩;obtain⟨U,L,X⟩:=AS T H.length
  exact u _ _ _ _ (m.trans U) (hi.trans L (aah _)) X (ar.upto _ S) rfl
 | scallE A y N _ =>
  rename_i f xs r H2;rw[DT V p A,if_pos rfl]
  have g:uB M.fm o.op s.op=true:=by
   rcases c with c|c
   .rw[y] at c;simp[bN] at c
   .exact c
  rw[y] at g;simp only[uB] at g;split at g
  case h_2=>cases g
  rename_i f' args ts z;simp only[aaa,beq_iff_eq] at g;obtain⟨rfl,I⟩:=g;obtain⟨O,R⟩:=N.2 M w (args.toList.map a.eval) rfl J (DJ I p);have C:=KH (P:=P) (w:=w) (a:=a) (caps:=#[]) z rfl O;unfold Oper.wpIn;refine⟨λ_ _=>trivial,?_⟩;rw[FU (by rw[z];simp),C]
  have E:args.map a.eval++#[]=(args.toList.map a.eval).toArray:=by apply abc;simp
  rw[E];refine⟨λh=>by(cases h),H7 (R.mono ?_)⟩;rintro en w' ⟨rv,M',rfl,S,m,hi,T⟩;obtain⟨U,L,X⟩:=AS T H.length
  exact u _ _ _ _ (m.trans U) (hi.trans L (aah _)) X (ar.upto _ S) rfl
 | kcall A y N _ =>
  rename_i ro f xs r;rw[DT V p A,if_pos rfl]
  have g:uB M.fm o.op s.op=true:=by
   rcases c with c|c
   .rw[y] at c;simp[bN] at c
   .exact c
  rw[y] at g;simp only[uB] at g;split at g
  case h_2=>cases g
  rename_i f' args ts z;simp only[aaa,beq_iff_eq] at g;obtain⟨rfl,I⟩:=g;obtain⟨O,R⟩:=N.2 M w (args.toList.map a.eval) rfl J (DJ I p);have C:=KH (P:=P) (w:=w) (a:=a) (caps:=#[]) z rfl O;unfold Oper.wpIn;refine⟨λ_ _=>trivial,?_⟩;rw[FU (by rw[z];simp),C]
  have E:args.map a.eval++#[]=(args.toList.map a.eval).toArray:=by apply abc;simp
  rw[E];refine⟨λh=>by(cases h),H7 (R.mono ?_)⟩;rintro en w' ⟨rv,M',rfl,S,m,hi,T⟩
  exact u _ _ _ _ m hi T S rfl
 | vcall A y dL N _ =>
  rename_i ro fx xs f hp r H2;rw[DT V p A,if_pos rfl]
  have g:uB M.fm o.op s.op=true:=by
   rcases c with c|c
   .rw[y] at c;simp[bN] at c
   .exact c
  rw[y] at g;simp only[uB] at g;split at g
  case h_2=>cases g
  rename_i fo args ts z;simp only[aaa] at g;obtain⟨zB,I⟩:=g;have gG:=fQ zB p;rw[dL] at gG;simp only[ar] at gG;obtain⟨caps,Ns,Be⟩:=gG;obtain⟨O,R⟩:=N.2 M w (args.toList.map a.eval++caps) rfl J (zj (DJ I p) Be);have C:=KH (P:=P) (w:=w) (a:=a) (caps:=caps.toArray) z Ns O;unfold Oper.wpIn;refine⟨λ_ _=>trivial,?_⟩;rw[FU (by rw[z];simp),C]
  have E:args.map a.eval++caps.toArray=(args.toList.map a.eval++caps).toArray:=by apply abc;simp
  rw[E];refine⟨λh=>by(cases h),H7 (R.mono ?_)⟩;rintro en w' ⟨rv,M',rfl,S,m,hi,T⟩;obtain⟨U,L,X⟩:=AS T H.length
  exact u _ _ _ _ (m.trans U) (hi.trans L (aah _)) X (ar.upto _ S) rfl
 | ke A y dL hb fD ha jC kq iS =>
  rename_i fx xs id e0 ps as bo e1 hj f0 rm rn rq x e2 H2 g0 rr ry rz;rw[DT V p A,if_pos rfl]
  have g:uB M.fm o.op s.op=true:=by
   rcases c with c|c
   .rw[y] at c;simp[bN] at c
   .exact c
  rw[y] at g;simp only[uB] at g;split at g
  case h_2=>cases g
  rename_i fo args ts z;simp only[aaa] at g;obtain⟨zB,I⟩:=g;have gG:=fQ zB p;rw[dL] at gG;simp only[ar] at gG;obtain⟨dR,Ns⟩:=gG;have E:=DJ I p;have Y:=ik E;simp only[aaw] at Y;obtain⟨l,hl⟩:=bb (M.j id);have h0:=J.rel id _ hb;simp only[aM] at h0;obtain⟨mu,r,kH,hq,An,H8,DU,yq⟩:=h0;have ah:id<H.length:=(aae.1 hb).1
  have dD:(args.map a.eval).size=r.params.size:=by
   have B:=congrArg List.length An.1
   have D:args.size=xs.length:=by simpa using Y
   simp at B |-;omega
  have C:(execOp a.eval o).run P w=.ok (.round l r.fn ((r.params.zip (args.map a.eval)).foldl (λtmps (t,a)=>tmps.setIfInBounds t a) r.tmps) r.assign r.body) w:=by have:=run_yield (P:=P) (l:=M.j id) (args:=args.map a.eval) kH dD;rw[hl];simp[execOp,z,resolve,Ns,Deferred.ofValue,invoke,this]
  obtain⟨tm,RJ⟩:∃tm,tm=(r.params.zip (args.map a.eval)).foldl (λtmps (t,a)=>tmps.setIfInBounds t a) r.tmps:=⟨_,rfl⟩
  have W5:tm=(ps.zip (args.toList.map a.eval)).foldl (fun(t:Array Value) (q:Nat×Value)=>t.setIfInBounds q.1 q.2) r.tmps:=by rw[RJ,<-ack,Array.toList_zip,An.1];simp
  rw[<-RJ] at C;obtain⟨Z,FX⟩:=zve (ps:=ps) (tmps:=r.tmps) E An.2 (by simp[fD]) (zxR yq);rw[<-W5] at Z FX;unfold Oper.wpIn;refine⟨λ_ _=>trivial,?_⟩;rw[FU (by rw[z];simp),C];refine⟨λh=>by(cases h),?_⟩;refine roundIn_of_wpIn (F:=FR ro) (n:=0) (l:=l) trivial ?_;refine ha.2 l r.tmps.size r.assign M w _ _ H8 ⟨FX,⟨ir,λd hd=>by cases hd⟩,Z,p.pa⟩ J rfl ?_;intro a1 w1 M1 t1 r1 U i1 m1
  have H9:M1.j id=l:=by rw[hl];exact(i1 id ah dR).2.1
  have B:=r1.rel id _ jC;simp only[aM] at B;obtain⟨_,rc1,Bf,rF,_⟩:=B;obtain⟨M2,L,i2,r2,W6⟩:=W3 (st':=.busy) (r':={ rc1 with state:=.busy }) r1 jC Bf rfl rfl rfl rfl rfl;rw[H9] at Bf L r2;refine⟨_,run_beginRound Bf rF.1,?_⟩;refine kq.2 l r.tmps.size r.body M2 _ a1 _ DU (bn.step L r1 i2 t1) r2 (L.fm.trans U.fm) ?_;intro a3 w3 M3 t3 r3 X i3 m3
  have uC:id<hj.length:=(aae.1 jC).1;have rG:M1.al id=true:=(i1 id ah dR).1;have jD:=(i2 id uC rG)
  have Vr:M3.j id=l:=by rw[(i3 id (by simpa using uC) jD.1).2.1,W6];exact H9
  have W:=r3.rel id _ iS;simp only[aM] at W;obtain⟨_,rc3,tG,_⟩:=W
  have Nt:H.length<=H2.length:=by have:=ha.1;have:=kq.1;simp at this;omega
  have xq:∀(i:Option Code) (st':AI) (b:Bool),V4 st' { rc3 with state:=if i.isNone then .ready else .done,pending:=i }->i.isNone=b->decide (x=.nx)=b->(if x=.nx then AI.ready else .done x)=st' ->
    ∃v w',(Instr.endRound l i).run P w3=.ok v w'/\K (a.put o.dst v) w':=by
   intro i st' b ja cU hn W7;obtain⟨M4,s4,i4,r4,_⟩:=W3 (st':=st') (r':={ rc3 with state:=if i.isNone then .ready else .done,pending:=i }) r3 iS tG rfl rfl rfl rfl ja;rw[Vr] at s4 r4;have Bg:=tG;rw[Vr] at Bg;refine⟨_,_,run_endRound i Bg,?_⟩;obtain⟨u1,u2,u3⟩:=AS r4 H.length;rw[<-W7] at s4 r4 u1 u3;refine u _ (M4.upto H.length) (.bool i.isNone) (.bool (decide (x=.nx))) ((((U.trans L).trans X).trans s4).trans u1) ?_ u3 (by simp only[ar];rw[cU,hn]) rfl
   have e2:=ha.1;have e3:=kq.1;simp only[abd] at e3;exact(((i1.trans i2 e2).trans i3 (by simp only[abd];exact e2)).trans i4 Nt).trans u2 (aah _)
  cases x with
  | nx=>exact xq none .ready true ⟨rfl,rfl⟩ rfl rfl rfl
  | ret=>exact xq (some .ret) (.done .ret) false ⟨rfl,rfl⟩ rfl rfl rfl
  | exit k=>exact xq (some (.exit k)) (.done (.exit k)) false ⟨rfl,rfl⟩ rfl rfl rfl
def W8{sz id off:Nat}{a:Bool}{v:V}(h:loadAt H sz a id off=some (v,H1)):H1=H:=by
 unfold loadAt at h
 repeat' split at h
 all_goals first
  | (cases h;done)
  | (rw[aai] at h;obtain⟨_,_,h⟩:=h;cases h;rfl)
def W9{sz id off:Nat}{u v:V}(h:storeAt H sz id off u=some (v,H1)):∃cs,H1=H.set id (some (.cells cs)):=by
 unfold storeAt at h
 repeat' split at h
 all_goals first
  | (cases h;done)
  | (cases h;exact⟨_,rfl⟩)
def zF2{base:Nat}{e:Env}{s:dW}{v:V}(h:aU base e H s=some (v,H1)):H1.length=H.length:=by
 cases s<;>simp only[aU] at h
 case loadR|loadA =>
  repeat' split at h
  all_goals first
   | (cases h;done)
   | rw[W8 h]
 case storeA|jX|storeT =>
  repeat' split at h
  all_goals first
   | (cases h;done)
   | (obtain⟨a,h⟩:=W9 h;rw[h];simp)
 all_goals first
  | (cases h;rfl)
  | (repeat' split at h)<;>first
   | (cases h;done)
   | (cases h;rfl)
   | (cases h;simp;done)
   | (rw[aai] at h;obtain⟨_,_,h⟩:=h;cases h;rfl)
 all_goals first
  | (rw[aai] at h;obtain⟨_,_,h⟩:=h;cases h;rfl)
def SS.len{base:Nat}{s:aF}{e c:Env}(h:SS P fm base s e H c H1):H.length<=H1.length:=by
 cases h with
 | ev _ d=>exact abA (zF2 d).symm
 | skip=>exact aah _
 | pcall=>exact aah _
 | scallE _ _ a _=>simp only[ak,aaw,aaf];exact abA (aaQ a.1).symm
 | scallA _ _ a _=>simp only[ak,aaw,aaf];exact abA (aaQ a.1).symm
 | scall _ _ a=>simp only[ak,aaw,aaf];exact abA (aaQ a.1).symm
 | kcall _ _ a _=>exact a.1
 | vcall _ _ _ a=>simp only[ak,aaw,aaf];exact abA (aaQ a.1).symm
 | ke _ _ _ _ _ f _ g _ =>
  have i:=f.1;have b:=g.1;simp only[abd] at b;simp only[ak,aaw,aaf,abd];exact abA (aaQ (abm i b)).symm
end Go.Ev
