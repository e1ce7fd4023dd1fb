/- Canonical values of a simplified reading of Go functions, and how they lie in the model's memory. -/
import Derived.WalkKit
import Derived.Orders
import Derived.Deep.MidRow
import Derived.Deep.AppendSrc
import Derived.Deep.Upon
import Derived.Laws.Strings
import Derived.Laws.Concat
import Derived.Laws.StructEq
import Derived.Laws.RangeAny
import Derived.ChangeKeysEq
import Derived.MapKept
import Derived.Lib.OthersKept
import Derived.Carry
set_option linter.defProp false
set_option linter.unusedSimpArgs false
set_option linter.unusedVariables false
open Option renaming some->aab,map_eq_some_iff->aal,isSome_iff_exists->aaL,map_some->aaY,map_none->abK,getD_some->aca,map->acd
open List renaming getElem?_eq_some_iff->aad,length_take->aae,mem_of_mem_take->aai,replicate->aaj,getElem?_set_self->aak,mem_of_mem_drop->aan,length_drop->aao,getElem?_map->aap,length_append->aar,eq_of_mem_replicate->aas,map_cons->aau,getElem?_take->aav,flatten_cons->aaw,map_nil->aax,map_set->aay,getElem?_append_left->aaD,length_map->aaJ,map_append->aaO,flatten_nil->aaP,getElem?_append_right->aaT,getElem?_set->aaW,length_cons->aaX,eq_nil_of_length_eq_zero->aa0,mem_map->aa1,take_append_drop->aa2,mem_flatten->aa4,flatten_append->aa5,mem_append->aba,length_nil->abe,getElem?_drop->abj,length_replicate->abn,replicate_succ->abt,drop_drop->abu,append_assoc->aby,size_toArray->abz,extract_eq_take_drop->abA,mem_or_eq_of_mem_set->abB,map_map->abC,getElem?_eq_getElem->abD,getElem_mem->abE,all_eq_true->abG,getElem?_replicate->abH,length_set->abN,take_of_length_le->abQ,length_eq_one_iff->abR,getElem?_eq_none->abS,getElem?_toArray->abT,getElem?_of_mem->abU,getElem?_range->abV,ext_getElem?->ab6,range'->ab7,cons_append->ab8,range'_succ->ab_,forIn_cons->acg,mem_cons->acj
open Nat renaming le_refl->aaf,add_mul->aaB,lt_of_lt_of_le->aaC,mul_le_mul_right->aaN,one_mul->aaZ,le_trans->abi,add_zero->abo,min_eq_left->abp,zero_add->abF,le_mul_of_pos_right->abJ,zero_le->abP,mul_div_cancel->ab2,sub_zero->ab3,mul_one->acm,mod_lt->acn
open Bool renaming and_eq_true->aag,false_eq_true->aaq,true_or->aaI,not_eq_true'->ab5,or_eq_true->acf,false_or->ach,true_and->aci,or_true->ack
open Array renaming getElem?_toList->aah,getElem?_eq_some_iff->aat,length_toList->aaA,getElem?_eq_getElem->aaG,getElem?_modify->aa3,toList_push->abl,all_eq_true_iff_forall_mem->abm,range->abw,getElem?_push->abZ,toList_range->ab0,toList_map->ab9,ext'->ace
open BitVec renaming ofInt->aaH
open Prod renaming mk->ab4
namespace Go.Ev
theorem bb{α:Sort _}(a:α):∃x,x=a:=⟨a,rfl⟩
theorem ag5{p:Prop}(h:p:=by omega):p=True:=eq_true h
theorem ag6{p:Prop}(h:¬p:=by omega):p=False:=eq_false h
theorem ag7{p:Prop}(h:p:=by decide):p:=h
def an{p:Prop}(h:p:=by omega):p:=h
def ir{p:Prop}(h:p:=by simp):p:=h
open Go Go.RowKit
inductive Tk where
 | no|full|own (q:Nat)
 deriving DecidableEq
inductive V where
 | undef
 | mf
 | any
 | int (k:IntKind) (n:Int)
 | bool (b:Bool)
 | str (s:List UInt8)
 | nilp
 | ptr (id off:Nat)
 | cptr (cs:List V)
 | vs (es:List (List V)) (tk:Tk)
 | rs (id off n sz:Nat)
 | fn (f:Nat) (cap:List V)
 | nilf
 | agg (cs:List V)
 | a_ (cs:List V)
 | mp (id:Nat)
 | nilm
 | yld (id:Nat)
 | gs (id n:Nat)
inductive X where
 | t (i:Nat)
 | c (v:V)
inductive Kd where
 | int|bool|str
 deriving DecidableEq
inductive Ky where
 | sc (k:Kd)
 | row (ks:List Kd)
@[simp] def Ky.isRow:Ky->Bool
 | .sc _=>false
 | .row _=>true
inductive dT where
 | mv (x:X)
 | pick (c a b:X)
 | box (s:Nat) (x:X)
 | alloc (s:Nat) (z:List V)
 | build (z:List V) (ps:List (Nat×Nat×X))
 | bslice (n:Nat) (z:List V) (ps:List (Nat×X))
 | load (sz:Nat) (ag old:Bool) (x:X)
 | store (sz:Nat) (a x:X)
 | pX (off:Nat) (x:X)
 | Hu (off sz:Nat) (ag:Bool) (x:X)
 | qV (sz:Nat) (x i:X)
 | mT (len sz:Nat) (x i:X)
 | idx (len sz:Nat) (ag:Bool) (x i:X)
 | bin (op:BinOp) (x y:X)
 | beq (neg:Bool) (x y:X)
 | un (op:UnOp) (x:X)
 | conv (k:IntKind) (x:X)
 | mkfn (f:Nat) (cap:List X)
 | ext (i:Nat) (x:X)
 | len (st:Bool) (x:X)
 | app (s sz bytes:Nat) (x y:X)
 | slc (sz:Nat) (x:X) (lo hi mx:Option X)
 | qW (x:X)
 | qm (s bytes:Nat) (z:List V) (n:X)
 | Hv (ks:List Kd) (neg:Bool) (x y:X)
 | pY (k:Nat) (neg:Bool) (x:X)
 | mm (mx:Bool) (xs:List X)
 | wY (x i:X)
 | sslc (x:X) (lo hi:Option X)
 | Hw (x:X)
 | Hx (x:X)
 | qX (s:Nat)
 | tY (ks:Ky) (ok:Bool) (z:V) (x k:X)
 | mput (ks:Ky) (x k v:X)
 | vl (ks:Ky) (z:V) (x k:X)
 | FE (x i v:X)
 | FG (s:Nat) (x:X)
 | yi (x:X)
 | wZ (len sz:Nat) (x:X) (lo hi:Option X)
 | FI (sz:Nat) (x y:X)
 | loadR (sz:Nat) (ag:Bool) (r:Nat) (x:X)
 | storeA (sz:Nat) (rs:List Nat) (a x:X)
 | bsliceR (s n:Nat) (z:List V) (ps:List (Nat×X))
 | sZ (sz:Nat) (ag:Bool) (x:X)
 | jT (s sz:Nat) (a x:X)
 | kcall (ro:Bool) (f:Nat) (xs:List X)
 | pcall (f:Nat) (xs:List X)
 | scall (f:Nat) (xs:List X)
 | vcall (ro:Bool) (f:X) (xs:List X)
 | scallA (rs:List Nat) (f:Nat) (xs:List X)
 | scallE (f:Nat) (xs:List X)
 | jM (s n:Nat) (z:List V) (ps:List (Nat×X))
 | mark (x:X)
 | loadA (sz:Nat) (ag:Bool) (rs:List Nat) (x:X)
 | storeT (sz r:Nat) (a x:X)
structure aE where
 dst:Option Nat
 op:dT
 guard:Option (Nat×Bool)
inductive bc where
 | skip
 | region (m:Nat) (ops:List aE)
 | seq (a b:bc)
 | cond (c:X) (a b:bc)
 | block (id:Nat) (c:bc)
 | loop (l:List Nat) (c:bc)
 | exit (id:Nat)
 | ret
 | keep (l:List Nat)
 | give (t:Nat) (off:Option Nat)
 | freeze (t:Nat)
 | iv (g:X) (l ps:List Nat) (as bo:bc)
 | nat (k:Nat)
inductive Ex where
 | nx|exit (id:Nat)|ret
 deriving DecidableEq
inductive jx where
 | tmp (t:Nat)
 | cell (t sz:Nat) (ag:Bool)
inductive AA where
 | ready
 | busy
 | done (x:Ex)
 | over
def V.fB:V->Bool
 | .undef|.mf|.agg _|.a_ _=>false
 | _=>true
def V.pure:V->Bool
 | .int _ _|.bool _|.str _|.nilp|.cptr _|.nilf|.nilm=>true
 | .vs _ (.own _)=>false
 | .vs _ _=>true
 | .fn _ []=>true
 | _=>false
def V.cr{c:V}(h:c.pure=true):c.fB=true:=by cases c<;>simp_all [V.pure,V.fB]
structure Z where
 n:Nat
 cH:Option Nat
 cap:Nat
 sz:Nat
structure Fm where
 fn:Nat->FuncId
 gl:Nat->Option (List V)
 uS:Nat->bc->Code->Prop
instance:CoeFun Fm λ_=>Nat->FuncId:=⟨Fm.fn⟩
structure Mm where
 al:Nat->Bool
 j:Nat->Nat
 gP:Nat->Option Nat
 z:Nat->Z
 fm:Fm
def Rd(M:Mm)(b o:Nat):Prop:=∀l,M.gP b=some l->o<l
def mg(M:Mm)(es:List (List V))(a:Option Addr)(cap:Nat):Tk->Prop
 | .no=>True
 | .full=>cap=es.length
 | .own q=>M.al q=true/\es.length<=(M.z q).n/\(es.length=(M.z q).n->cap=(M.z q).cap /\
   match(M.z q).cH with
   | none=>cap=es.length
   | some b=>a=some ⟨b,0,none⟩/\∀e∈es,e.length=(M.z q).sz)
mutual
def aq(M:Mm)(w:World):V->Value->Prop
 | .undef,_=>True
 | .mf,v=>v=undef
 | .any,v=>v.oneCell'=true
 | .int k n,v=>v=.int k n
 | .bool b,v=>v=.bool b
 | .str s,v=>v=.string ⟨s.toArray⟩
 | .nilp,v=>v=.pointer none
 | .ptr id h,v=>M.al id=true/\v=.pointer (some ⟨M.j id,h,none⟩)
 | .cptr i,v=>(∀c∈i,c.pure=true)/\∃b o,v=.pointer (some ⟨b,o,none⟩)/\fL M w b i o
 | .vs g tk,v=>(∀e∈g,∀c∈e,c.pure=true)/\∃a d,v=.slice a g.length d/\g.length<=d /\
   (match a with
    | none=>g=[]/\d=0
    | some l=>(g=[]\/l.spot=none)/\(∃m,∀e∈g,e.length=m)/\gE M w l.block g l.off)/\mg M g a d tk
 | .rs id h n _,v=>M.al id=true/\∃d,v=.slice (some ⟨M.j id,h,none⟩) n d/\n<=d
 | .fn f d,v=>∃xs:List Value,v=.func (.func (M.fm f)) #[] xs.toArray/\ai M w d xs
 | .nilf,v=>v=.nilFunc
 | .agg i,v=>(∀c∈i,c.fB=true)/\∃xs:List Value,v=.agg xs.toArray/\ai M w i xs
 | .a_ i,v=>∃xs:List Value,v=.tuple xs.toArray/\ai M w i xs
 | .mp id,v=>M.al id=true/\v=.map (some (M.j id))
 | .nilm,v=>v=.map none
 | .yld id,v=>M.al id=true/\v=.func (.yield (M.j id)) #[] #[]
 | .gs id n,v=>M.al id=true/\∃d,v=.slice (some ⟨M.j id,0,none⟩) n d/\n<=d/\((M.z id).n=0->d=(M.z id).cap)
def ai(M:Mm)(w:World):List V->List Value->Prop
 | [],xs=>xs=[]
 | c::b,xs=>∃x a,xs=x::a/\aq M w c x/\ai M w b a
def fL(M:Mm)(w:World)(b:Nat):List V->Nat->Prop
 | [],_=>True
 | c::a,o=>(∃x,w.cell? ⟨b,o,none⟩=some x/\Rd M b o/\aq M w c x)/\fL M w b a (o+1)
def gE(M:Mm)(w:World)(b:Nat):List (List V)->Nat->Prop
 | [],_=>True
 | e::a,o=>fL M w b e o/\gE M w b a (o+e.length)
end
inductive ax where
 | cells (cs:List V)
 | zone (n:Nat)
 | jy (cs:List V)
 | map (es:List (V×V))
 | dF (s:List UInt8) (pos:Nat)
 | loop (e0:List (Nat×V)) (ps:List Nat) (as bo:bc) (st:AA)
 | grow (cs:List V) (sz:Nat) (fu:Bool)
abbrev ae:=List (Option ax)
def aS(M:Mm)(H:ae)(id:Nat):Option Nat :=
 match H[id]? with
 | some (some (.zone _))=>(M.z id).cH
 | some (some _)=>some (M.j id)
 | _=>none
def uT(M:Mm)(H:ae)(b:Nat):Prop:=∃id,aS M H id=some b
def zHh:Ex->Code
 | .nx=>.skip
 | .exit id=>.exit id
 | .ret=>.ret
def Vy:AA->Loop->Prop
 | .ready,r=>r.state=.ready/\r.pending=none
 | .busy,r=>r.state=.busy
 | .done x,r=>r.state=.done/\r.pending=some (zHh x)
 | .over,_=>True
def LPs(ps:List Nat)(r:Loop):Prop:=r.params.toList=ps/\∀p∈ps,p<r.tmps.size
def aJ(M:Mm)(w:World)(id:Nat):ax->Prop
 | .cells a=>(∀c∈a,c.fB=true)/\M.gP (M.j id)=some 0/\∃xs e,w.heap[M.j id]?=some (.cells xs e (0,0))/\ai M w a (xs.toList.take a.length)
 | .grow a f g=>(∀c∈a,c.fB=true)/\M.gP (M.j id)=some 0/\(M.z id).n=0/\(M.z id).sz=f/\∃xs e,w.heap[M.j id]?=some (.cells xs e (0,0))/\xs.size=(M.z id).cap*f/\ai M w a (xs.toList.take a.length)/\(g=true->xs.size=a.length)
 | .zone n=>(M.z id).n=n /\
   match(M.z id).cH with
   | none=>(M.z id).cap=n
   | some b=>0<n/\n<=(M.z id).cap/\0<(M.z id).sz/\M.gP b=some (n*(M.z id).sz)/\∃xs e,w.heap[b]?=some (.cells xs e (0,0))/\xs.size=(M.z id).cap*(M.z id).sz
 | .jy a=>(∀c∈a,c.pure=true)/\M.gP (M.j id)=some a.length/\∃xs e,w.heap[M.j id]?=some (.cells xs e (0,0))/\ai M w a (xs.toList.take a.length)
 | .map d=>M.gP (M.j id)=some 0/\∃ents:Array MapEntry,w.heap[M.j id]?=some (.map ents d.length)/\ai M w (d.map (·.1)) (ents.toList.map (·.key))/\ai M w (d.map (·.2)) (ents.toList.map (·.val)) /\
   ∀(i:Nat) (x:MapEntry),ents[i]?=some x->x.born=i
 | .dF s pos=>M.gP (M.j id)=some 0/\w.heap[M.j id]?=some (.stringIter ⟨s.toArray⟩ pos)
 | .loop h k as bo st=>M.gP (M.j id)=some 0/\∃r:Loop,w.heap[M.j id]?=some (.loop r)/\Vy st r/\LPs k r/\M.fm.uS r.tmps.size as r.assign/\M.fm.uS r.tmps.size bo r.body /\
   ∀p∈h,aq M w p.2 (r.tmps.getD p.1 undef)
def AB(M:Mm)(w:World):Prop:=∀g cs,M.fm.gl g=some cs->aq M w (.cptr cs) (.pointer (some ⟨g,0,none⟩))
structure aG (M:Mm) (w:World) (H:ae):Prop where
 rX:∀id,M.al id=true↔∃cH,H[id]?=some (some cH)
 rel:∀id cH,H[id]?=some (some cH)->aJ M w id cH
 inj:∀id rY b,aS M H id=some b->aS M H rY=some b->id=rY
 oW:AB M w
def vm(a b:Z):Prop:=a.n<=b.n/\(a.n=b.n->a=b)
def vm.refl(a:Z):vm a a:=⟨aaf _,λ_=>rfl⟩
def vm.trans{a b c:Z}(h:vm a b)(k:vm b c):vm a c :=
 ⟨abi h.1 k.1,λe=>by have d:=h.1;have f:=k.1;rw[h.2 an,k.2 an]⟩
structure eI (M:Mm) (H:ae) (w:World) (M':Mm) (H':ae) (w':World):Prop where
 os:w'.os=w.os
 tape:w'.tape=w.tape
 output:w'.output=w.output
 size:w.heap.size<=w'.heap.size
 same:∀b,b<w.heap.size->¬uT M H b->w'.heap[b]?=w.heap[b]?
 cells:∀b l o,b<w.heap.size->M.gP b=some l->o<l->w'.cell? ⟨b,o,none⟩=w.cell? ⟨b,o,none⟩
 n_:∀b,b<w.heap.size->M.gP b=none->M'.gP b=none
 jz:∀b l,b<w.heap.size->M.gP b=some l->∃l',M'.gP b=some l'/\l<=l'
 limo:∀b,b<w.heap.size->¬uT M H b->M'.gP b=M.gP b
 own:∀b,b<w.heap.size->uT M' H' b->uT M H b
 fm:M'.fm=M.fm
def fe(M M':Mm)(n:Nat):Prop:=∀id,id<n->M.al id=true->M'.al id=true/\M'.j id=M.j id/\vm (M.z id) (M'.z id)
def fe.refl(M:Mm)(n:Nat):fe M M n:=λ_ _ h=>⟨h,rfl,vm.refl _⟩
def fe.trans{M M' d:Mm}{n m:Nat}(h:fe M M' n)(k:fe M' d m)(i:n<=m):fe M d n:=λid hi e=>by
 obtain⟨a,b,c⟩:=h id hi e;obtain⟨f,g,c'⟩:=k id an a;exact⟨f,g.trans b,c.trans c'⟩
def fe.mono{M M':Mm}{n m:Nat}(h:fe M M' n)(a:m<=n):fe M M' m:=λid hi=>h id an
def aG.lt{M:Mm}{w:World}{H:ae}(h:aG M w H){id:Nat}(a:M.al id=true):id<H.length:=by obtain⟨c,b⟩:=(h.rX id).1 a;exact(aad.1 b).1
def eI.refl(M:Mm)(H:ae)(w:World):eI M H w M H w :=
 ⟨rfl,rfl,rfl,aaf _,λ_ _ _=>rfl,λ_ _ _ _ _ _=>rfl,λ_ _ h=>h,λ_ l _ h=>⟨l,h,aaf _⟩,λ_ _ _=>rfl,λ_ _ h=>h,rfl⟩
def eI.trans{M M' g:Mm}{H H' a:ae}{w w' i:World}(h:eI M H w M' H' w')(k:eI M' H' w' g a i):eI M H w g a i where
 os:=k.os.trans h.os
 tape:=k.tape.trans h.tape
 output:=k.output.trans h.output
 size:=abi h.size k.size
 same b hb ho:=(k.same b (aaC hb h.size) (λo=>ho (h.own b hb o))).trans (h.same b hb ho)
 cells b l o hb hl ho:=by obtain⟨c,d,e⟩:=h.jz b l hb hl;exact(k.cells b c o (aaC hb h.size) d an).trans (h.cells b l o hb hl ho)
 n_ b hb hl:=k.n_ b (aaC hb h.size) (h.n_ b hb hl)
 jz b l hb hl:=by obtain⟨c,d,e⟩:=h.jz b l hb hl;obtain⟨f,j,m⟩:=k.jz b c (aaC hb h.size) d;exact⟨f,j,an⟩
 limo b hb ho:=(k.limo b (aaC hb h.size) (λo=>ho (h.own b hb o))).trans (h.limo b hb ho)
 own b hb o:=h.own b hb (k.own b (aaC hb h.size) o)
 fm:=k.fm.trans h.fm
def aG.s9{M:Mm}{w:World}{H:ae}(h:aG M w H){b:Nat}(e:uT M H b):∃l,M.gP b=some l:=by
 obtain⟨id,a⟩:=e;unfold aS at a;split at a
 .rename_i n c;have:=h.rel id _ c;simp only[aJ,a] at this;exact⟨_,this.2.2.2.2.1⟩
 .rename_i f g c;simp only[aab.injEq] at a;subst a;have:=h.rel id _ c
  cases f with
  | zone n=>exact absurd rfl (g n)
  | cells d=>simp only[aJ] at this;exact⟨_,this.2.1⟩
  | jy d=>simp only[aJ] at this;exact⟨_,this.2.1⟩
  | map i=>simp only[aJ] at this;exact⟨_,this.1⟩
  | dF t pos=>simp only[aJ] at this;exact⟨_,this.1⟩
  | loop j k as bo st=>simp only[aJ] at this;exact⟨_,this.1⟩
  | grow d m o=>simp only[aJ] at this;exact⟨_,this.2.1⟩
 .cases a
def eI.rd{M M':Mm}{H H':ae}{w w':World}(h:eI M H w M' H' w')(i:aG M w H){b o:Nat}{x:Value}
  (e:w.cell? ⟨b,o,none⟩=some x) (rd:Rd M b o):w'.cell? ⟨b,o,none⟩=some x/\Rd M' b o:=by
 have d:b<w.heap.size:=World.block_lt_of_cell? w _ e
 cases c:M.gP b with
 | none =>
  have j:¬uT M H b:=λf=>by obtain⟨l,a⟩:=i.s9 f;rw[c] at a;cases a
  exact⟨(World.cell?_of_block (w:=w) (h.same b d j)).trans e,λl a=>by rw[h.n_ b d c] at a;cases a⟩
 | some l =>
  have f:=rd l c;obtain⟨m,a,k⟩:=h.jz b l d c;exact⟨(h.cells b l o d c f).trans e,λn g=>by rw[a] at g;cases g;omega⟩
def ic{M:Mm}{w:World}:∀{cs:List V} {xs:List Value},ai M w cs xs->xs.length=cs.length
 | [],xs,h=>by simp only[ai] at h;simp[h]
 | c::cs,xs,h=>by
  simp only[ai] at h;obtain⟨x,a,rfl,_,h⟩:=h;simp[ic h]
def og{M:Mm}{w:World}:∀{cs:List V} {xs:List Value},ai M w cs xs->∀{i:Nat} {c:V},cs[i]?=some c->∃x,xs[i]?=some x/\aq M w c x
 | [],_,_,i,c,a=>by simp at a
 | c::cs,xs,h,i,c',a=>by
  simp only[ai] at h;obtain⟨x,d,rfl,b,h⟩:=h
  cases i with
  | zero=>simp at a;subst a;exact⟨x,ir,b⟩
  | succ i=>simp at a;simpa using og h a
def AD{M:Mm}{w:World}:∀{cs:List V} {xs:List Value},xs.length=cs.length->(∀(i:Nat) (c:V) (x:Value),cs[i]?=some c->xs[i]?=some x->aq M w c x)->ai M w cs xs
 | [],xs,a,_=>by simp only[ai];exact aa0 a
 | c::cs,[],a,_=>by simp at a
 | c::cs,x::xs,a,h=>by
  simp only[ai];exact⟨x,xs,rfl,h 0 c x ir ir,AD (by simpa using a) (λi c' b d e=>h (i+1) c' b (by simpa using d) (by simpa using e))⟩
def ze{M:Mm}{w:World}{cs ds:List V}{xs ys:List Value}(h:ai M w cs xs)(k:ai M w ds ys):ai M w (cs++ds) (xs++ys):=by
 have f:=ic h;have g:=ic k;refine AD (by simp[f,g]) λi c x d a=>?_;rw[List.getElem?_append] at d a;rw[f] at a;split at d
 .rename_i hi;rw[if_pos hi] at a;obtain⟨j,b,e⟩:=og h d;rw[a] at b;cases b;exact e
 .rename_i hi;rw[if_neg hi] at a;obtain⟨j,b,e⟩:=og k d;rw[a] at b;cases b;exact e
def wE{M:Mm}{w:World}{cs:List V}{xs:List Value}(h:ai M w cs xs)(n:Nat):ai M w (cs.take n) (xs.take n):=by
 have e:=ic h;refine AD (by simp[e]) λi c x a b=>?_;rw[aav] at a b;split at a
 .rename_i hi;rw[if_pos hi] at b;obtain⟨g,d,f⟩:=og h a;rw[b] at d;cases d;exact f
 .cases a
def yj{M:Mm}{w:World}{cs:List V}{xs:List Value}(h:ai M w cs xs)(n:Nat):ai M w (cs.drop n) (xs.drop n):=by have e:=ic h;refine AD (by simp[e]) λi c x a b=>?_;rw[abj] at a b;obtain⟨g,d,f⟩:=og h a;rw[b] at d;cases d;exact f
def VA{M:Mm}{w:World}{b:Nat}:∀{cs:List V} {o:Nat},fL M w b cs o->∀{i:Nat} {c:V},cs[i]?=some c->∃x,w.cell? ⟨b,o+i,none⟩=some x/\Rd M b (o+i)/\aq M w c x
 | [],_,_,i,c,a=>by simp at a
 | c::cs,o,h,i,c',a=>by
  simp only[fL] at h;obtain⟨⟨x,d,e,f⟩,h⟩:=h
  cases i with
  | zero=>simp at a;subst a;exact⟨x,by simpa using d,by simpa using e,f⟩
  | succ i =>
   simp at a;have:=VA h a;rw[show o+1+i=o+(i+1) by omega] at this;exact this
def DF{M:Mm}{w:World}{b:Nat}:∀{cs:List V} {o:Nat},(∀(i:Nat) (c:V),cs[i]?=some c->∃x,w.cell? ⟨b,o+i,none⟩=some x/\Rd M b (o+i)/\aq M w c x)->fL M w b cs o
 | [],_,_=>by simp only[fL]
 | c::cs,o,h=>by
  simp only[fL];refine⟨by simpa using h 0 c ir,DF λi c' a=>?_⟩;rw[show o+1+i=o+(i+1) by omega];exact h (i+1) c' (by simpa using a)
def znO{M:Mm}{w:World}{b:Nat}{cs ds:List V}{o:Nat}:fL M w b (cs++ds) o↔fL M w b cs o/\fL M w b ds (o+cs.length):=by
 induction cs generalizing o with
 | nil=>simp[fL]
 | cons c cs a =>
  simp only[ab8,fL,a,aaX];rw[show o+1+cs.length=o+(cs.length+1) by omega];exact and_assoc.symm
def Kb{M:Mm}{w:World}{b:Nat}{es:List (List V)}{o:Nat}:gE M w b es o↔fL M w b es.flatten o:=by
 induction es generalizing o with
 | nil=>simp[fL,gE]
 | cons e es a=>simp only[gE,aaw,znO,a]
def VB{M:Mm}{w:World}{b:Nat}{es fs:List (List V)}{o:Nat}:gE M w b (es++fs) o↔gE M w b es o/\gE M w b fs (o+es.flatten.length):=by simp only[Kb,aa5,znO]
def VC{M:Mm}{w:World}{c:V}{x:Value}(h:aq M w c x)(a:c.fB=true):x.oneCell'=true:=by
 cases c<;>simp only[V.fB,aaq] at a<;>simp only[aq] at h
 case any=>exact h
 case int=>subst h;rfl
 case bool=>subst h;rfl
 case str=>subst h;rfl
 case nilp=>subst h;rfl
 case ptr=>obtain⟨_,rfl⟩:=h;rfl
 case cptr=>obtain⟨_,_,_,rfl,_⟩:=h;rfl
 case vs=>obtain⟨_,_,_,rfl,_⟩:=h;rfl
 case rs=>obtain⟨_,_,rfl,_⟩:=h;rfl
 case fn=>obtain⟨_,rfl,_⟩:=h;rfl
 case nilf=>subst h;rfl
 case mp=>obtain⟨_,rfl⟩:=h;rfl
 case nilm=>subst h;rfl
 case yld=>obtain⟨_,rfl⟩:=h;rfl
 case gs=>obtain⟨_,_,rfl,_⟩:=h;rfl
mutual
def aq.step{M M':Mm}{H H':ae}{w w':World}(h:eI M H w M' H' w')(d:aG M w H)(hi:fe M M' H.length):∀{c:V} {x:Value},aq M w c x->aq M' w' c x
 | .undef,_,_=>by simp only[aq]
 | .mf,_,e=>by simpa only[aq] using e
 | .any,_,e=>by simpa only[aq] using e
 | .int _ _,_,e=>by simpa only[aq] using e
 | .bool _,_,e=>by simpa only[aq] using e
 | .str _,_,e=>by simpa only[aq] using e
 | .nilp,_,e=>by simpa only[aq] using e
 | .ptr id k,_,e=>by
  simp only[aq] at e |-;obtain⟨a,b,_⟩:=hi id (d.lt e.1) e.1
  exact⟨a,by rw[b];exact e.2⟩
 | .cptr m,_,e=>by
  simp only[aq] at e |-;obtain⟨p,b,o,g,e⟩:=e
  exact⟨p,b,o,g,fL.step h d hi e⟩
 | .vs D tk,_,e=>by
  simp only[aq] at e |-;obtain⟨p,a,i,g,l,j,r⟩:=e;refine⟨p,a,i,g,l,?_,?_⟩
  .cases a with
   | none=>exact j
   | some E=>exact⟨j.1,j.2.1,gE.step h d hi j.2.2⟩
  .cases tk with
   | no=>trivial
   | full=>exact r
   | own q =>
    obtain⟨s,y,A⟩:=r;obtain⟨B,_,z⟩:=hi q (d.lt s) s;refine⟨B,abi y z.1,λt=>?_⟩;have u:=z.1
    have:(M.z q).n=(M'.z q).n:=an
    have:=z.2 this;rw[<-this] at t |-
    exact A t
 | .rs id k n _,_,e=>by
  simp only[aq] at e |-;obtain⟨a,b,_⟩:=hi id (d.lt e.1) e.1
  exact⟨a,by rw[b];exact e.2⟩
 | .fn f i,_,e=>by
  simp only[aq] at e |-;obtain⟨xs,g,e⟩:=e
  exact⟨xs,by rw[h.fm];exact g,ai.step h d hi e⟩
 | .nilf,_,e=>by simpa only[aq] using e
 | .nilm,_,e=>by simpa only[aq] using e
 | .mp id,_,e=>by
  simp only[aq] at e |-;obtain⟨a,b,_⟩:=hi id (d.lt e.1) e.1
  exact⟨a,by rw[b];exact e.2⟩
 | .yld id,_,e=>by
  simp only[aq] at e |-;obtain⟨a,b,_⟩:=hi id (d.lt e.1) e.1
  exact⟨a,by rw[b];exact e.2⟩
 | .gs id n,_,e=>by
  simp only[aq] at e |-;obtain⟨a,b,z⟩:=hi id (d.lt e.1) e.1;obtain⟨_,i,g,l,u⟩:=e;refine⟨a,i,by rw[b];exact g,l,λv=>?_⟩;have F:=z.1;have C:=z.2 an;rw[<-C] at v |-
  exact u v
 | .agg m,_,e=>by
  simp only[aq] at e |-;obtain⟨p,xs,g,e⟩:=e
  exact⟨p,xs,g,ai.step h d hi e⟩
 | .a_ m,_,e=>by
  simp only[aq] at e |-;obtain⟨xs,g,e⟩:=e;exact⟨xs,g,ai.step h d hi e⟩
def ai.step{M M':Mm}{H H':ae}{w w':World}(h:eI M H w M' H' w')(a:aG M w H)(hi:fe M M' H.length):∀{cs:List V} {xs:List Value},ai M w cs xs->ai M' w' cs xs
 | [],_,e=>by simpa only[ai] using e
 | c::cs,_,e=>by
  simp only[ai] at e |-;obtain⟨x,b,d,f,g⟩:=e;exact⟨x,b,d,aq.step h a hi f,ai.step h a hi g⟩
def fL.step{M M':Mm}{H H':ae}{w w':World}(h:eI M H w M' H' w')(a:aG M w H)(hi:fe M M' H.length){b:Nat}:∀{cs:List V} {o:Nat},fL M w b cs o->fL M' w' b cs o
 | [],_,_=>by simp only[fL]
 | c::cs,o,e=>by
  simp only[fL] at e |-;obtain⟨⟨x,d,rd,f⟩,g⟩:=e;have:=h.rd a d rd;exact⟨⟨x,this.1,this.2,aq.step h a hi f⟩,fL.step h a hi g⟩
def gE.step{M M':Mm}{H H':ae}{w w':World}(h:eI M H w M' H' w')(a:aG M w H)(hi:fe M M' H.length){b:Nat}:∀{es:List (List V)} {o:Nat},gE M w b es o->gE M' w' b es o
 | [],_,_=>by simp only[gE]
 | e::es,o,k=>by
  simp only[gE] at k |-;exact⟨fL.step h a hi k.1,gE.step h a hi k.2⟩
end
def AB.step{M M':Mm}{H H':ae}{w w':World}(h:eI M H w M' H' w')(a:aG M w H)(hi:fe M M' H.length)(g:AB M w):AB M' w' :=
 λk b c=>aq.step h a hi (g k b (by rw[<-h.fm];exact c))
end Go.Ev
namespace Go.Ev
open Go Go.RowKit
abbrev Env:=Nat->V
def Env.put(e:Env)(d:Option Nat)(v:V):Env :=
 match d with
 | some d=>λi=>if i=d then v else e i
 | none=>e
def Env.jd(e:Env)(d:Nat)(v:V)(i:Nat):(e.put (some d) v) i=if i=d then v else e i:=rfl
def ig:List (Nat×V)->Env
 | []=>λ_=>.undef
 | (d,v)::l=>λi=>if i=d then v else ig l i
def look(e:Env):List Nat->List (Nat×V)
 | []=>[]
 | i::l=>(i,e i)::look e l
def sC:List Nat->List V->Env->Env
 | p::a,v::vs,e=>sC a vs (e.put (some p) v)
 | _,_,e=>e
def X.ev(e:Env):X->V
 | .t i=>e i
 | .c v=>v
def V.cells?:V->Option (List V)
 | .undef|.mf|.a_ _=>none
 | .agg a=>some a
 | v=>some [v]
def mk(a:Bool)(cs:List V):Option V :=
 if a then some (.agg cs) else match cs with|[c]=>some c|_=>none
def Tk.cl(n:Nat):Tk->Tk
 | .own q=>if q<n then .own q else .no
 | .no=>.no
 | .full=>.full
mutual
def V.cl(n:Nat):V->V
 | .ptr id a=>if id<n then .ptr id a else .any
 | .rs id a k e=>if id<n then .rs id a k e else .any
 | .vs g tk=>.vs g (tk.cl n)
 | .fn f d=>.fn f (ba n d)
 | .agg c=>.agg (ba n c)
 | .a_ c=>.a_ (ba n c)
 | .undef=>.undef
 | .mf=>.mf
 | .any=>.any
 | .int k i=>.int k i
 | .bool b=>.bool b
 | .str s=>.str s
 | .nilp=>.nilp
 | .cptr c=>.cptr c
 | .nilf=>.nilf
 | .mp id=>if id<n then .mp id else .any
 | .nilm=>.nilm
 | .yld id=>if id<n then .yld id else .any
 | .gs id k=>if id<n then .gs id k else .any
def ba(n:Nat):List V->List V
 | []=>[]
 | c::a=>c.cl n::ba n a
end
def ax.cl(n:Nat):ax->ax
 | .cells a=>.cells (ba n a)
 | .zone k=>.zone k
 | .jy a=>.jy (ba n a)
 | .map b=>.map (b.map λp=>(p.1.cl n,p.2.cl n))
 | .dF s pos=>.dF s pos
 | .loop c d as bo st=>.loop (c.map λp=>(p.1,p.2.cl n)) d as bo st
 | .grow a e f=>.grow (ba n a) e f
def ak(n:Nat)(H:ae):ae:=(H.take n).map (acd (ax.cl n))
inductive UOp where
 | neg|not|xor
 deriving DecidableEq
def jU(k:IntKind)(a b:Int):Int:=k.wrap (aaH k.bits a &&& aaH k.bits b).toNat
def uU(k:IntKind)(a b:Int):Int:=k.wrap (aaH k.bits a ||| aaH k.bits b).toNat
def vn(k:IntKind)(a b:Int):Int:=k.wrap (aaH k.bits a ^^^ aaH k.bits b).toNat
def Kc(k:IntKind)(a b:Int):Int:=k.wrap (aaH k.bits a &&& ~~~aaH k.bits b).toNat
def je(k:IntKind)(a b:Int):Int:=k.wrap (a*2^(min b.toNat k.bits))
def jV(k:IntKind)(a b:Int):Int:=a.fdiv (2^(min b.toNat k.bits))
def ku(k:IntKind)(a b:Int):Int:=k.wrap (a.tdiv b)
def dN(k:IntKind)(a b:Int):Int:=k.wrap (a*b)
def aD(k:IntKind)(a b:Int):Int:=k.wrap (a+b)
def bP(k:IntKind)(a b:Int):Int:=k.wrap (a-b)
def fU(a b:Int):Int:=a.tmod b
def AE(k:IntKind)(a:Int):Int:=k.wrap (0-a)
def AF(k:IntKind)(a:Int):Int:=k.wrap (aaH k.bits (if k.signed then -1 else k.max) ^^^ aaH k.bits a).toNat
def eP(k:IntKind)(a:Int):Int:=k.wrap a
def VD(op:BinOp):V->V->Option V
 | .int k a,.int c b =>
  match op with
  | .shl=>if b<0 then none else some (.int k (je k a b))
  | .shr=>if b<0 then none else some (.int k (jV k a b))
  | .add=>if k=c then some (.int k (aD k a b)) else none
  | .sub=>if k=c then some (.int k (bP k a b)) else none
  | .mul=>if k=c then some (.int k (dN k a b)) else none
  | .quo=>if k=c then(if b=0 then none else some (.int k (ku k a b))) else none
  | .rem=>if k=c then(if b=0 then none else some (.int k (fU a b))) else none
  | .and=>if k=c then some (.int k (jU k a b)) else none
  | .or=>if k=c then some (.int k (uU k a b)) else none
  | .xor=>if k=c then some (.int k (vn k a b)) else none
  | .andNot=>if k=c then some (.int k (Kc k a b)) else none
  | .eql=>if k=c then some (.bool (a==b)) else none
  | .neq=>if k=c then some (.bool (a !=b)) else none
  | .lss=>if k=c then some (.bool (decide (a<b))) else none
  | .leq=>if k=c then some (.bool (decide (a<=b))) else none
  | .gtr=>if k=c then some (.bool (decide (a>b))) else none
  | .geq=>if k=c then some (.bool (decide (a≥b))) else none
 | .str a,.str b =>
  match op with
  | .add=>if a.length+b.length<=9223372036854775807 then some (.str (a++b)) else none
  | .eql=>some (.bool (a==b))
  | .neq=>some (.bool !(a==b))
  | .lss=>some (.bool (Op.bytesLess a b))
  | .leq=>some (.bool (Op.bytesLess a b||a==b))
  | .gtr=>some (.bool !(Op.bytesLess a b||a==b))
  | .geq=>some (.bool !(Op.bytesLess a b))
  | _=>none
 | _,_=>none
def HA(op:UnOp):V->Option V
 | .int k n =>
  match op with
  | .neg=>some (.int k (AE k n))
  | .xor=>some (.int k (AF k n))
  | _=>none
 | .bool b =>
  match op with
  | .not=>some (.bool !b)
  | _=>none
 | _=>none
def oh(e:Env):List V->List (Nat×Nat×X)->Option (List V)
 | cs,[]=>some cs
 | cs,(a,b,x)::c =>
  match(x.ev e).cells? with
  | some ds=>if ds.length=b/\a+ds.length<=cs.length then oh e (cs.take a++ds++cs.drop (a+ds.length)) c else none
  | none=>none
def AG(e:Env)(sz:Nat):List (List V)->List (Nat×X)->Option (List (List V))
 | es,[]=>some es
 | es,(i,x)::a =>
  match(x.ev e).cells? with
  | some ds=>if i<es.length/\ds.length=sz/\ds.all V.pure=true then AG e sz (es.set i ds) a else none
  | none=>none
def intOf?:V->Option Int
 | .int _ n=>some n
 | _=>none
def s_(e:Env)(len:Nat)(lo hi mx:Option X):Option (Nat×Nat×Bool) :=
 let h?:Option Int:=match hi with|some x=>intOf? (x.ev e)|none=>some len
 let l?:Option Int:=match lo with|some x=>intOf? (x.ev e)|none=>some 0
 let m?:Option (Option Int):=match mx with|some x=>(intOf? (x.ev e)).map some|none=>some none
 match l?,h?,m? with
 | some l,some h,some m =>
  if 0<=l/\l<=h/\h<=len/\(∀v,m=some v->v=h)/\(mx.isSome->hi.isSome) then some (l.toNat,h.toNat,m.isSome) else none
 | _,_,_=>none
def V.eqc:V->V->Option Bool
 | .int k a,.int c b=>if k=c then some (a==b) else none
 | .bool a,.bool b=>some (a==b)
 | .str a,.str b=>some (a==b)
 | _,_=>none
def zf:List V->List V->Option Bool
 | [],[]=>some true
 | a::as,b::c=>match a.eqc b,zf as c with
  | some x,some y=>some (x&&y)
  | _,_=>none
 | _,_=>none
def qI:Kd->V->V->Option Bool
 | .int,.int k a,.int c b=>if k=c then some (a==b) else none
 | .bool,.bool a,.bool b=>some (a==b)
 | .str,.str a,.str b=>some (a==b)
 | _,_,_=>none
def cF:List Kd->List V->List V->Option Bool
 | [],[],[]=>some true
 | k::c,a::as,b::d=>match qI k a b,cF c as d with
  | some x,some y=>some (x&&y)
  | _,_=>none
 | _,_,_=>none
def j9(ks:Ky)(a b:V):Option Bool :=
 match ks,a,b with
 | .sc k,a,b=>qI k a b
 | .row ks,.agg x,.agg y=>cF ks x y
 | _,_,_=>none
def j_(ks:Ky)(k:V):List (V×V)->Nat->Option (Option (Nat×V))
 | [],_=>some none
 | p::a,i=>match j9 ks k p.1 with
  | some true=>some (some (i,p.2))
  | some false=>j_ ks k a (i+1)
  | none=>none
def MD(mx:Bool)(a b:Int):Int:=if mx then(if b>a then b else a) else(if b<a then b else a)
def sD(e:Env)(mx:Bool)(k:IntKind):Int->List X->Option V
 | a,[]=>some (.int k a)
 | a,x::xs=>match x.ev e with
  | .int c b=>if k=c then sD e mx k (MD mx a b) xs else none
  | _=>none
def CC:List (List V)->Option (List UInt8)
 | []=>some []
 | [.int .u8 n]::a=>match CC a with|some b=>some (UInt8.ofNat n.toNat::b)|none=>none
 | _=>none
def qY(s:List UInt8):List (List V):=s.map λb=>[V.int .u8 b.toNat]
def V.elems?:V->Option (List (List V))
 | .vs a _=>some a
 | .str s=>some (qY s)
 | _=>none
def Q8(H:ae)(sz:Nat):V->Option (List V)
 | .vs b _=>if b.all (λf=>f.length==sz) then some b.flatten else none
 | .rs id a n _=>match H[id]? with
  | some (some (.cells c))=>if a+n*sz<=c.length then some ((c.drop a).take (n*sz)) else none
  | _=>none
 | _=>none
def lK(H:ae)(i:Nat):Bool:=match H[i]? with|some none=>true|_=>false
def pZ(sz:Nat):Nat->List V->List (List V)
 | 0,_=>[]
 | k+1,a=>a.take sz::pZ sz k (a.drop sz)
def loadAt(H:ae)(sz:Nat)(b:Bool)(id off:Nat):Option (V×ae) :=
 match H[id]? with
 | some (some (.cells a))=>if off+sz<=a.length then(mk b ((a.drop off).take sz)).map (·,H) else none
 | _=>none
def V.ptrId?:V->Option Nat
 | .ptr id _=>some id
 | .rs id _ _ _=>some id
 | _=>none
def storeAt(H:ae)(sz id off:Nat)(v:V):Option (V×ae) :=
 match v.cells?,H[id]? with
 | some ds,some (some (.cells a))=>if ds.length=sz/\off+sz<=a.length then some (.undef,H.set id (some (.cells (a.take off++ds++a.drop (off+sz))))) else none
 | _,_=>none
def V.jA:V->V
 | .vs a _=>.vs a .no
 | v=>v
def V.FJ:V->V
 | .vs a _=>.vs a .no
 | .agg b=>.agg (b.map V.jA)
 | v=>v
def aU(base:Nat)(e:Env)(H:ae):dT->Option (V×ae)
 | .mv x=>some (x.ev e,H)
 | .pick c a b=>match c.ev e with|.bool t=>some (if t then a.ev e else b.ev e,H)|_=>none
 | .box s x=>match(x.ev e).cells? with
  | some j=>if lK H (base+s)=true then some (.ptr (base+s) 0,H.set (base+s) (some (.cells j))) else none
  | none=>none
 | .alloc s z=>if lK H (base+s)=true then some (.ptr (base+s) 0,H.set (base+s) (some (.cells z))) else none
 | .build z C=>match oh e z C with|some j=>some (.agg j,H)|none=>none
 | .bslice n z C=>match AG e z.length (aaj n z) C with|some u=>some (.vs u .full,H)|none=>none
 | .load g A G x=>match x.ev e with
  | .ptr id d=>if G=true/\base<=id then none else match H[id]? with
   | some (some (.cells j))=>if d+g<=j.length then(mk A ((j.drop d).take g)).map (·,H) else none
   | _=>none
  | .cptr j=>if g<=j.length then(mk A (j.take g)).map (·,H) else none
  | _=>none
 | .store g a x=>match a.ev e,(x.ev e).cells? with
  | .ptr id d,some ds=>match H[id]? with
   | some (some (.cells j))=>if ds.length=g/\d+g<=j.length then some (.undef,H.set id (some (.cells (j.take d++ds++j.drop (d+g))))) else none
   | _=>none
  | _,_=>none
 | .pX d x=>match x.ev e with
  | .ptr id o=>some (.ptr id (o+d),H)
  | .cptr j=>some (.cptr (j.drop d),H)
  | _=>none
 | .Hu d g A x=>match x.ev e with
  | .agg j=>if d+g<=j.length then(mk A ((j.drop d).take g)).map (·,H) else none
  | _=>none
 | .qV g x i=>match x.ev e,i.ev e with
  | .vs u _,.int _ n=>if 0<=n then match u[n.toNat]? with
    | some j=>if j.length=g then some (.cptr j,H) else none
    | none=>none
   else none
  | .rs id d k _,.int _ n=>if 0<=n/\n<k then some (.ptr id (d+n.toNat*g),H) else none
  | _,_=>none
 | .mT w g x i=>match x.ev e,i.ev e with
  | .ptr id d,.int _ n=>if 0<=n/\n<w then some (.ptr id (d+n.toNat*g),H) else none
  | .cptr j,.int _ n=>if 0<=n/\n<w then some (.cptr (j.drop (n.toNat*g)),H) else none
  | _,_=>none
 | .idx w g A x i=>match x.ev e,i.ev e with
  | .agg j,.int _ n=>if 0<=n/\n<w/\n.toNat*g+g<=j.length then(mk A ((j.drop (n.toNat*g)).take g)).map (·,H) else none
  | _,_=>none
 | .bin I x y=>(VD I (x.ev e) (y.ev e)).map (·,H)
 | .beq neg x y=>match x.ev e,y.ev e with
  | .bool a,.bool b=>some (.bool (if neg then !(a==b) else a==b),H)
  | _,_=>none
 | .un I x=>(HA I (x.ev e)).map (·,H)
 | .conv k x=>match x.ev e with|.int _ n=>some (.int k (eP k n),H)|_=>none
 | .mkfn f D=>some (.fn f (D.map (X.ev e)),H)
 | .ext i x=>match x.ev e with|.a_ j=>(j[i]?).map (·,H)|_=>none
 | .len st x=>match st,x.ev e with
  | false,.vs u _=>some (.int .i64 u.length,H)
  | false,.rs _ _ n _=>some (.int .i64 n,H)
  | true,.str s=>some (.int .i64 s.length,H)
  | _,_=>none
 | .app s g bytes x y=>match x.ev e,(y.ev e).elems? with
  | .vs u tk,some E =>
   if E=[] then some (.vs u tk,H) else
   if(u.length+E.length)*bytes<=140737488355328/\(∀f∈E,f.length=g)/\(∀f∈u,f.length=g) then
    match tk with
    | .own q=>match H[q]? with
     | some (some (.zone n))=>if n=u.length then some (.vs (u++E) (.own q),H.set q (some (.zone (n+E.length)))) else none
     | _=>none
    | .full=>if lK H (base+s)=true then some (.vs (u++E) (.own (base+s)),H.set (base+s) (some (.zone (u.length+E.length)))) else none
    | .no=>none
   else none
  | _,_=>none
 | .slc g x lo hi F=>match x.ev e with
  | .vs u tk=>match s_ e u.length lo hi F with
   | some (l,h,m)=>if(∀f∈u,f.length=g) then some (.vs ((u.drop l).take (h-l)) (if m=true\/tk=.full/\h=u.length then .full else .no),H) else none
   | none=>none
  | .rs id d n K=>match s_ e n lo hi F with
   | some (l,h,m)=>if l=0\/l<n/\m=false then some (.rs id (d+l*g) (h-l) K,H) else none
   | none=>none
  | _=>none
 | .qW x=>match x.ev e with
  | .ptr id o=>some (.ptr id o,H)
  | .cptr j=>some (.cptr j,H)
  | .fn f D=>some (.fn f D,H)
  | _=>none
 | .qm s bytes z n=>match n.ev e with
  | .int _ k=>if lK H (base+s)=true/\0<=k/\k.toNat*bytes<=140737488355328 then some (.rs (base+s) 0 k.toNat z.length,H.set (base+s) (some (.cells (aaj k.toNat z).flatten))) else none
  | _=>none
 | .Hv B neg x y=>match x.ev e,y.ev e with
  | .agg j,.agg ds=>match cF B j ds with
   | some b=>some (.bool (if neg then !b else b),H)
   | none=>none
  | _,_=>none
 | .pY k neg x=>match k,x.ev e with
  | 0,.fn _ _=>some (.bool neg,H)
  | 0,.nilf=>some (.bool !neg,H)
  | 1,.ptr _ _=>some (.bool neg,H)
  | 1,.cptr _=>some (.bool neg,H)
  | 1,.nilp=>some (.bool !neg,H)
  | 2,.mp _=>some (.bool neg,H)
  | 2,.nilm=>some (.bool !neg,H)
  | _,_=>none
 | .mm F xs=>match xs with
  | x::xs=>match x.ev e with
   | .int k a=>(sD e F k a xs).map (·,H)
   | _=>none
  | []=>none
 | .wY x i=>match x.ev e,i.ev e with
  | .str s,.int _ n=>if 0<=n then match s[n.toNat]? with
    | some b=>some (.int .u8 b.toNat,H)
    | none=>none
   else none
  | _,_=>none
 | .sslc x lo hi=>match x.ev e with
  | .str s=>match s_ e s.length lo hi none with
   | some (l,h,_)=>some (.str ((s.drop l).take (h-l)),H)
   | none=>none
  | _=>none
 | .Hw x=>match x.ev e with
  | .vs u _=>match CC u with
   | some s=>some (.str s,H)
   | none=>none
  | _=>none
 | .Hx x=>match x.ev e with
  | .int _ n=>some (.str (Utf8.encode n).data.toList,H)
  | _=>none
 | .qX s=>if lK H (base+s)=true then some (.mp (base+s),H.set (base+s) (some (.map []))) else none
 | .tY B J z x k=>if B.isRow=true/\j9 B (k.ev e) (k.ev e)=none then none else match x.ev e with
  | .mp id=>match H[id]? with
   | some (some (.map u))=>match j_ B (k.ev e) u 0 with
    | some (some (_,v))=>some (if J then .a_ [v,.bool true] else v,H)
    | some none=>some (if J then .a_ [z,.bool false] else z,H)
    | none=>none
   | _=>none
  | .nilm=>some (if J then .a_ [z,.bool false] else z,H)
  | _=>none
 | .mput B x k v=>match x.ev e with
  | .mp id=>if j9 B (k.ev e) (k.ev e)=none\/(v.ev e).cells?=none then none else match H[id]? with
   | some (some (.map u))=>match j_ B (k.ev e) u 0 with
    | some (some (i,_))=>some (.undef,H.set id (some (.map (u.set i (k.ev e,v.ev e)))))
    | some none=>some (.undef,H.set id (some (.map (u++[(k.ev e,v.ev e)]))))
    | none=>none
   | _=>none
  | _=>none
 | .vl B z x k=>match x.ev e with
  | .mp id=>if j9 B (k.ev e) (k.ev e)=none then none else match H[id]? with
   | some (some (.map u))=>match j_ B (k.ev e) u 0 with
    | some (some (i,v))=>some (.a_ [v,.int .i64 i],H.set id (some (.map (u.set i (k.ev e,v)))))
    | some none=>some (.a_ [z,.int .i64 u.length],H.set id (some (.map (u++[(k.ev e,z)]))))
    | none=>none
   | _=>none
  | _=>none
 | .FE x i v=>match x.ev e,i.ev e with
  | .mp id,.int _ n=>match H[id]? with
   | some (some (.map u))=>if 0<=n then match u[n.toNat]? with
     | some p=>some (.undef,H.set id (some (.map (u.set n.toNat (p.1,v.ev e)))))
     | none=>none
    else none
   | _=>none
  | _,_=>none
 | .FG s x=>match x.ev e with
  | .str t=>if lK H (base+s)=true then some (.ptr (base+s) 0,H.set (base+s) (some (.dF t 0))) else none
  | _=>none
 | .yi x=>match x.ev e with
  | .ptr id 0=>match H[id]? with
   | some (some (.dF t pos)) =>
    if pos<t.length then some (.a_ [.bool true,.int .i64 pos,.int .i32 (Utf8.decode ⟨t.toArray⟩ pos).1],H.set id (some (.dF t (pos+(Utf8.decode ⟨t.toArray⟩ pos).2))))
    else some (.a_ [.bool false],H)
   | _=>none
  | _=>none
 | .wZ w g x lo hi=>match s_ e w lo hi none with
  | some (l,h,_)=>match x.ev e with
   | .ptr id d=>if l<w then some (.rs id (d+l*g) (h-l) g,H) else none
   | _=>none
  | none=>none
 | .FI g x y=>match x.ev e with
  | .rs id d n _=>match H[id]?,Q8 H g (y.ev e) with
   | some (some (.cells j)),some ds =>
    if d+n*g<=j.length/\0<g then
     some (.int .i64 (min (ds.length/g) n:Nat),H.set id (some (.cells (j.take d++ds.take (min (ds.length/g) n*g)++j.drop (d+min (ds.length/g) n*g)))))
    else none
   | _,_=>none
  | _=>none
 | .loadR g A r x=>match x.ev e with
  | .ptr id d=>if(e r).ptrId?=some id then loadAt H g A id d else none
  | _=>none
 | .storeA g rs a x=>match a.ev e with
  | .ptr id d=>if rs.all (λr=>(e r).ptrId? !=some id) then storeAt H g id d (x.ev e) else none
  | _=>none
 | .bsliceR s n z C=>if lK H (base+s)=true then match oh e (aaj n z).flatten (C.map λq=>(q.1*z.length,z.length,q.2)) with
   | some j=>some (.rs (base+s) 0 n z.length,H.set (base+s) (some (.cells j)))
   | none=>none
  else none
 | .sZ g A x=>match x.ev e with
  | .cptr j=>if g<=j.length then(mk A (j.take g)).map (·,H) else none
  | _=>none
 | .jT s g a x=>match a.ev e with
  | .ptr id d=>if id=base+s then storeAt H g id d (x.ev e) else none
  | _=>none
 | .jM s n z C=>match AG e z.length (aaj n z) C with
  | some u=>if lK H (base+s)=true then some (.gs (base+s) n,H.set (base+s) (some (.grow u.flatten z.length true))) else none
  | none=>none
 | .mark x=>match x.ev e with
  | .gs id n=>match H[id]? with
   | some (some (.grow j g true))=>if g=1/\j.length=n/\j.all V.pure=true then some (.vs (pZ 1 n j) .full,H.set id (some (.zone 1))) else none
   | _=>none
  | _=>none
 | .loadA g A rs x=>match x.ev e with
  | .ptr id d=>if rs.all (λr=>(e r).ptrId? !=some id) then loadAt H g A id d else none
  | _=>none
 | .storeT g r a x=>match a.ev e with
  | .ptr id d=>if(e r).ptrId?=some id then storeAt H g id d (x.ev e) else none
  | _=>none
 | .pcall _ _|.scall _ _|.kcall _ _ _|.vcall _ _ _|.scallA _ _ _|.scallE _ _=>none
def zh(H:ae):V->V
 | .rs id a n b=>match H[id]? with
  | some (some (.cells c))=>if a+n*b<=c.length/\c.all V.pure=true then .vs (pZ b n (c.drop a)) .no else .rs id a n b
  | _=>.rs id a n b
 | v=>v
def vo(H:ae):V->V
 | .a_ vs=>.a_ (vs.map (zh H))
 | v=>zh H v
def V.nf:V->V
 | .a_ a=>.a_ (a.map V.FJ)
 | v=>v.FJ
def V.out(v:V):V:=(v.cl 0).nf
def zi(l:List V):List V:=l.map V.out
structure aH where
 nt:Nat
 body:bc
 res:List jx
def oX(l:List Nat)(e:Env):Env:=λi=>if i∈l then e i else .undef
def Env.cl(n:Nat)(e:Env):Env:=λi=>(e i).cl n
def wanted(e:Env)(o:aE):Option Bool :=
 match o.guard with
 | none=>some true
 | some (g,a)=>match e g with|.bool b=>some (b==a)|.mf=>some false|_=>none
def DG(e:Env)(H:ae)(t:Nat):Option Nat->Option (Env×ae)
 | none=>match e t with
  | .vs a .full=>some (e.put (some t) (.vs a (.own H.length)),H++[some (.zone a.length)])
  | .vs a (.own q)=>some (e.put (some t) (.vs a (.own q)),H)
  | _=>none
 | some b=>match e t with
  | .ptr id o=>match H[id]? with
   | some (some (.cells c))=>match c[o+b]? with
    | some (.vs a .full)=>some (e,H.set id (some (.cells (c.set (o+b) (.vs a (.own H.length)))))++[some (.zone a.length)])
    | some (.vs _ (.own _))=>some (e,H)
    | _=>none
   | _=>none
  | _=>none
def mW(H:ae):List V->Option (List V×ae)
 | []=>some ([],H)
 | .rs id a n d::e=>match H[id]? with
  | some (some (.cells ds))=>if a+n*d<=ds.length/\ds.all V.pure=true then
    match mW (H.set id (some (.jy ds))) e with
    | some (b,H')=>some (.vs (pZ d n (ds.drop a)) .no::b,H')
    | none=>none
   else none
  | some (some (.jy ds))=>if a+n*d<=ds.length then
    match mW H e with
    | some (b,H')=>some (.vs (pZ d n (ds.drop a)) .no::b,H')
    | none=>none
   else none
  | _=>none
 | c::e=>match mW H e with
  | some (b,H')=>some (c::b,H')
  | none=>none
def FK(e:Env)(H:ae)(t:Nat):Option (Env×ae) :=
 match e t with
 | .agg a=>match mW H a with
  | some (b,H')=>some (e.put (some t) (.agg b),H')
  | none=>none
 | .ptr id _=>match H[id]? with
  | some (some (.cells a))=>match mW H a with
   | some (b,H')=>match H'[id]? with
    | some (some (.cells _))=>some (e,H'.set id (some (.cells b)))
    | _=>none
   | none=>none
  | _=>none
 | v=>match mW H [v] with
  | some ([c],H')=>some (e.put (some t) c,H')
  | _=>none
def Q9(e:Env)(H:ae):jx->Option V
 | .tmp t=>some (e t)
 | .cell t b d=>match e t with
  | .ptr id a=>match H[id]? with
   | some (some (.cells c))=>if a+b<=c.length then mk d ((c.drop a).take b) else none
   | _=>none
  | _=>none
def vp(e:Env)(H:ae):List jx->Option (List V)
 | []=>some []
 | r::rs=>match Q9 e H r,vp e H rs with
  | some v,some vs=>some (v::vs)
  | _,_=>none
def vq:List V->V
 | [v]=>v
 | vs=>.a_ vs
def ME(args:List V):Env:=λi=>args.getD i .undef
inductive J where
 | F (f:Nat) (args:List V) (H:ae) (r:V) (H':ae)
 | S (base:Nat) (o:aE) (e:Env) (H:ae) (e':Env) (H':ae)
 | O (base:Nat) (os:List aE) (e:Env) (H:ae) (e':Env) (H':ae)
 | C (c:bc) (e:Env) (H:ae) (x:Ex) (e':Env) (H':ae)
 | L (n:Nat) (l:List Nat) (c:bc) (e:Env) (H:ae) (x:Ex) (e':Env) (H':ae)
def Ke(e:Env)(rs:List Nat)(H H1:ae):Prop:=∀r∈rs,∀id,(e r).ptrId?=some id->H1[id]?=H[id]?
def MF(base:Nat)(args:List V)(H H':ae):Prop:=(∀v∈args,v.cl base=v)/\H.map (acd (ax.cl base))=H/\H'.drop base=H.drop base
def zj:Nat->List V->ae->V->ae->Prop
 | 0,[.mp id,.int .u32 n],H,r,H'=>H'=H/\∃a:List (List UInt8×Int),H[id]?=some (some (.map (a.map λp=>(V.str p.1,V.int .u32 p.2))))/\(a.map (·.2)).Nodup/\r=.str (((a.find? λp=>p.2==n).map (·.1)).getD [])
 | 0,[.nilm,.int .u32 _],H,r,H'=>H'=H/\r=.str []
 | _,_,_,_,_=>False
inductive bE (G:Nat->Option aH):J->Prop
 | nat {f fn k args H r H'}:G f=some fn->fn.body=.nat k->zj k args H r H'->bE G (.F f args H r H')
 | fn {f fn args H x e' H' vs}:G f=some fn->args.length<=fn.nt->bE G (.C fn.body (ME args) H x e' H')->(x=.nx\/x=.ret)->vp e' H' fn.res=some vs ->
   bE G (.F f args H (vq vs) H')
 | ev {base o e H v H1}:wanted e o=some true->aU base e H o.op=some (v,H1)->bE G (.S base o e H (e.put o.dst v) H1)
 | skip {base o e H}:wanted e o=some false->bE G (.S base o e H (e.put o.dst .mf) H)
 | pcall {base o e H f xs r H1}:wanted e o=some true->o.op=.pcall f xs->bE G (.F f (zi (xs.map (X.ev e))) [] r H1) ->
   bE G (.S base o e H (e.put o.dst (vo H1 r).out) H)
 | scall {base o e H f xs r H1}:wanted e o=some true->o.op=.scall f xs->bE G (.F f (xs.map (X.ev e)) H r H1) ->
   bE G (.S base o e H (e.put o.dst (r.cl H.length)) (ak H.length H1))
 | scallA {base o e H rs f xs r H1}:wanted e o=some true->o.op=.scallA rs f xs->bE G (.F f (xs.map (X.ev e)) H r H1)->Ke e rs H (ak H.length H1) ->
   bE G (.S base o e H (e.put o.dst (r.cl H.length)) (ak H.length H1))
 | scallE {base o e H f xs r H1}:wanted e o=some true->o.op=.scallE f xs->bE G (.F f (xs.map (X.ev e)) H r H1)->MF base (xs.map (X.ev e)) H (ak H.length H1) ->
   bE G (.S base o e H (e.put o.dst (r.cl H.length)) (ak H.length H1))
 | kcall {base o e H ro f xs r H1}:wanted e o=some true->o.op=.kcall ro f xs->bE G (.F f (xs.map (X.ev e)) H r H1)->(ro=true->base<=H.length/\H1.take H.length=H) ->
   bE G (.S base o e H (e.put o.dst r) H1)
 | vcall {base o e H ro fx xs f cap r H1}:wanted e o=some true->o.op=.vcall ro fx xs->fx.ev e=.fn f cap->bE G (.F f (xs.map (X.ev e)++cap) H r H1) ->
   (ro=true->ak H.length H1=H)->bE G (.S base o e H (e.put o.dst (r.cl H.length)) (ak H.length H1))
 | ka {base o e H fx xs id e0 ps as bo e1 H1 f0 qZ q6 q7 x e2 H2 g0 q8 q9 q_}:wanted e o=some true->o.op=.vcall false fx xs->fx.ev e=.yld id->H[id]?=some (some (.loop e0 ps as bo .ready))->xs.length=ps.length ->
   bE G (.C as (sC ps (xs.map (X.ev e)) (ig e0)) H .nx e1 H1)->H1[id]?=some (some (.loop f0 qZ q6 q7 .ready))->bE G (.C bo e1 (H1.set id (some (.loop f0 qZ q6 q7 .busy))) x e2 H2) ->
   H2[id]?=some (some (.loop g0 q8 q9 q_ .busy)) ->
   bE G (.S base o e H (e.put o.dst (.bool (decide (x=.nx)))) (ak H.length (H2.set id (some (.loop g0 q8 q9 q_ (if x=.nx then .ready else .done x))))))
 | nil {base e H}:bE G (.O base [] e H e H)
 | cons {base o os e H e1 H1 e2 H2}:bE G (.S base o e H e1 H1)->bE G (.O base os e1 H1 e2 H2)->bE G (.O base (o::os) e H e2 H2)
 | AH {e H}:bE G (.C .skip e H .nx e H)
 | region {m ops e H e' H'}:bE G (.O H.length ops e (H++aaj m none) e' H')->bE G (.C (.region m ops) e H .nx e' H')
 | DH {a b e H e1 H1 x e2 H2}:bE G (.C a e H .nx e1 H1)->bE G (.C b e1 H1 x e2 H2)->bE G (.C (.seq a b) e H x e2 H2)
 | AI {a b e H x e1 H1}:bE G (.C a e H x e1 H1)->x≠.nx->bE G (.C (.seq a b) e H x e1 H1)
 | cond {c a b e H t x e1 H1}:c.ev e=.bool t->bE G (.C (if t then a else b) e H x e1 H1)->bE G (.C (.cond c a b) e H x e1 H1)
 | block {id c e H x e1 H1}:bE G (.C c e H x e1 H1)->bE G (.C (.block id c) e H (if x=.exit id then .nx else x) e1 H1)
 | loop {l c e H x e1 H1}:bE G (.L H.length l c e H x e1 H1)->bE G (.C (.loop l c) e H x e1 H1)
 | round {n l c e H e1 H1 x e2 H2}:bE G (.C c ((oX l e).cl n) (ak n H) .nx e1 H1)->bE G (.L n l c e1 H1 x e2 H2)->bE G (.L n l c e H x e2 H2)
 | last {n l c e H x e1 H1}:bE G (.C c ((oX l e).cl n) (ak n H) x e1 H1)->x≠.nx->bE G (.L n l c e H x e1 H1)
 | AJ {n k l c e H e1 H1 x e2 H2}:n<=k->k<=H.length->bE G (.C c ((oX l e).cl k) (ak k H) .nx e1 H1)->bE G (.L n l c e1 H1 x e2 H2)->bE G (.L n l c e H x e2 H2)
 | AK {n k l c e H x e1 H1}:n<=k->k<=H.length->bE G (.C c ((oX l e).cl k) (ak k H) x e1 H1)->x≠.nx->bE G (.L n l c e H x e1 H1)
 | exit {id e H}:bE G (.C (.exit id) e H (.exit id) e H)
 | ret {e H}:bE G (.C .ret e H .ret e H)
 | keep {l e H}:bE G (.C (.keep l) e H .nx (oX l e) H)
 | give {t off e H e1 H1}:DG e H t off=some (e1,H1)->bE G (.C (.give t off) e H .nx e1 H1)
 | iv {g l ps as bo e H f cap r H1 e0 vr zk zo st x}:g.ev e=.fn f cap->bE G (.F f (.yld H.length::cap) (H++[some (.loop (look e l) ps as bo .ready)]) r H1) ->
   H1[H.length]?=some (some (.loop e0 vr zk zo st))->(st=.ready/\x=.nx\/st=.done x/\x≠.nx)->bE G (.C (.iv g l ps as bo) e H x e (ak H.length H1))
 | freeze {t e H e1 H1}:FK e H t=some (e1,H1)->bE G (.C (.freeze t) e H .nx e1 H1)
open Go Go.RowKit
variable {M M':Mm} {H H':ae} {w w':World}
def getElem?_set_ne{α:Type}{l:List α}{i j:Nat}{a:α}(h:j≠i):(l.set i a)[j]?=l[j]?:=by rw[aaW];rw[if_neg (λe=>h e.symm)]
def uV{i:Nat}:lK H i=true↔H[i]?=some none:=by
 unfold lK
 split<;>simp_all
def aJ.step(h:eI M H w M' H' w')(i:aG M w H)(hi:fe M M' H.length){id:Nat}{q:ax}(k:H[id]?=some (some q))
  (l:∀b,aS M H id=some b->w'.heap[b]?=w.heap[b]?/\M'.gP b=M.gP b) (v:M'.z id=M.z id):aJ M' w' id q:=by
 have x:M.al id=true:=(i.rX id).2 ⟨q,k⟩;have A:=i.lt x;obtain⟨_,m,_⟩:=hi id A x;have g:=i.rel id q k
 cases q with
 | cells y =>
  simp only[aJ] at g |-;obtain⟨a,b,xs,e,c,d⟩:=g;have:=l (M.j id) (by simp[aS,k]);rw[m]
  exact⟨a,this.2.trans b,xs,e,this.1.trans c,ai.step h i hi d⟩
 | zone n =>
  simp only[aJ] at g |-;rw[v];refine⟨g.1,?_⟩;have o:=g.2
  cases u:(M.z id).cH with
  | none=>simp only[u] at o |-;exact o
  | some b =>
   simp only[u] at o |-;have:=l b (by simp[aS,k,u]);rw[this.1,this.2]
   exact o
 | jy y =>
  simp only[aJ] at g |-;obtain⟨a,b,xs,e,c,d⟩:=g;have:=l (M.j id) (by simp[aS,k]);rw[m]
  exact⟨a,this.2.trans b,xs,e,this.1.trans c,ai.step h i hi d⟩
 | map L =>
  simp only[aJ] at g |-;obtain⟨b,ents,c,d,d',f⟩:=g;have:=l (M.j id) (by simp[aS,k]);rw[m]
  exact⟨this.2.trans b,ents,this.1.trans c,ai.step h i hi d,ai.step h i hi d',f⟩
 | dF t pos =>
  simp only[aJ] at g |-;have:=l (M.j id) (by simp[aS,k]);rw[m]
  exact⟨this.2.trans g.1,this.1.trans g.2⟩
 | grow y N O =>
  simp only[aJ] at g |-;obtain⟨a,b,B,C,xs,e,c,s,d,D⟩:=g;have:=l (M.j id) (by simp[aS,k]);rw[m,v]
  exact⟨a,this.2.trans b,B,C,xs,e,this.1.trans c,s,ai.step h i hi d,D⟩
 | loop P Q as bo st =>
  simp only[aJ] at g |-;obtain⟨a,r,E,o,F,G,I,J⟩:=g;have:=l (M.j id) (by simp[aS,k]);rw[m,h.fm];exact⟨this.2.trans a,r,this.1.trans E,o,F,G,I,λp K=>aq.step h i hi (J p K)⟩
structure iQ (w w':World):Prop where
 os:w'.os=w.os
 tape:w'.tape=w.tape
 output:w'.output=w.output
 size:w.heap.size<=w'.heap.size
 block:∀b,b<w.heap.size->w'.heap[b]?=w.heap[b]?
def iQ.refl(w:World):iQ w w:=⟨rfl,rfl,rfl,aaf _,λ_ _=>rfl⟩
def iQ.drew(w:World):iQ w w.drew:=⟨rfl,rfl,rfl,aaf _,λ_ _=>rfl⟩
def iQ.alloc(w:World)(o:Obj):iQ w (w.alloc o):=⟨rfl,rfl,rfl,ir,λb a=>Below.heap_alloc w o b a⟩
def iQ.trans{a b c:World}(h:iQ a b)(k:iQ b c):iQ a c :=
 ⟨k.os.trans h.os,k.tape.trans h.tape,k.output.trans h.output,abi h.size k.size,λi hi=>(k.block i (aaC hi h.size)).trans (h.block i hi)⟩
def iQ.cell(h:iQ w w'){b o:Nat}(a:b<w.heap.size):w'.cell? ⟨b,o,none⟩=w.cell? ⟨b,o,none⟩ :=
 World.cell?_of_block (w:=w) (h.block b a)
def aG.gh(h:aG M w H){b:Nat}(g:uT M H b):b<w.heap.size:=by
 obtain⟨id,c⟩:=g;unfold aS at c;split at c
 .rename_i n d;have:=h.rel id _ d;simp only[aJ,c] at this;obtain⟨_,_,_,_,_,xs,e,a,_⟩:=this;exact(aat.1 a).1
 .rename_i i j d;have:=h.rel id _ d;simp only[aab.injEq] at c;subst c
  cases i with
  | zone n=>exact absurd rfl (j n)
  | cells f=>simp only[aJ] at this;obtain⟨_,_,xs,e,a,_⟩:=this;exact(aat.1 a).1
  | jy f=>simp only[aJ] at this;obtain⟨_,_,xs,e,a,_⟩:=this;exact(aat.1 a).1
  | map k=>simp only[aJ] at this;obtain⟨_,ents,a,_⟩:=this;exact(aat.1 a).1
  | dF t pos=>simp only[aJ] at this;exact(aat.1 this.2).1
  | loop l m as bo st=>simp only[aJ] at this;obtain⟨_,r,a,_⟩:=this;exact(aat.1 a).1
  | grow f o p=>simp only[aJ] at this;obtain⟨_,_,_,_,xs,e,a,_⟩:=this;exact(aat.1 a).1
 .cases c
structure Same (M M':Mm) (n:Nat):Prop where
 al:M'.al=M.al
 j:M'.j=M.j
 z:M'.z=M.z
 fm:M'.fm=M.fm
 gP:∀b,b<n->M'.gP b=M.gP b
def Same.refl(M:Mm)(n:Nat):Same M M n:=⟨rfl,rfl,rfl,rfl,λ_ _=>rfl⟩
def Same.bl{n:Nat}(s:Same M M' n)(id:Nat):aS M' H id=aS M H id:=by simp only[aS,s.j,s.z]
def MG(d:aG M w H)(g:iQ w w')(s:Same M M' w.heap.size):eI M H w M' H w'/\fe M M' H.length/\aG M' w' H:=by
 have c:eI M H w M' H w':={
  os:=g.os
  tape:=g.tape
  output:=g.output
  size:=g.size
  same:=λb a _=>g.block b a
  cells:=λb l o a _ _=>g.cell a
  n_:=λb a e=>(s.gP b a).trans e
  jz:=λb l a e=>⟨l,(s.gP b a).trans e,aaf _⟩
  limo:=λb a _=>s.gP b a
  own:=λb _ k=>by obtain⟨id,bI⟩:=k;exact⟨id,by rw[<-s.bl];exact bI⟩
  fm:=s.fm }
 have bI:fe M M' H.length:=λid _ m=>⟨by rw[s.al];exact m,by rw[s.j],by rw[s.z];exact vm.refl _⟩;refine⟨c,bI,⟨λid=>by rw[s.al];exact d.rX id,λid q a=>?_,λid n b f h=>?_,d.oW.step c d bI⟩⟩
 .refine aJ.step c d bI a (λb p=>?_) (by rw[s.z]);have i:=d.gh ⟨id,p⟩;exact⟨g.block b i,s.gP b i⟩
 .rw[s.bl] at f h;exact d.inj id n b f h
def Mm.jz(M:Mm)(b:Nat)(l:Option Nat):Mm:={ M with gP:=λk=>if k=b then l else M.gP k }
def Same.jz(M:Mm)(n:Nat)(l:Option Nat):Same M (M.jz n l) n:=⟨rfl,rfl,rfl,rfl,λb a=>by simp only[Mm.jz];rw[if_neg an]⟩
def Mm.i_(M:Mm)(id b:Nat):Mm :=
 { M with al:=λi=>decide (i=id)||M.al i,j:=λi=>if i=id then b else M.j i,gP:=λk=>if k=b then some 0 else M.gP k }
def Q_(b:aG M w H){id:Nat}(c:lK H id=true):M.al id=false:=by
 cases h:M.al id with
 | false=>rfl
 | true =>
  obtain⟨d,a⟩:=(b.rX id).1 h;rw[uV.1 c] at a;cases a
def HB{id:Nat}(a:lK H id=true):id<H.length:=(aad.1 (uV.1 a)).1
def ax.pv:ax->Bool
 | .zone _=>true
 | _=>false
def MH(c:aG M w H){id:Nat}(s:lK H id=true){blk0:ax}{ob:Obj}(n:blk0.pv=false)
  (t:eI M H w (M.i_ id w.heap.size) (H.set id (some blk0)) (w.alloc ob)->fe M (M.i_ id w.heap.size) H.length->aJ (M.i_ id w.heap.size) (w.alloc ob) id blk0) :
  eI M H w (M.i_ id w.heap.size) (H.set id (some blk0)) (w.alloc ob)/\fe M (M.i_ id w.heap.size) H.length /\
  aG (M.i_ id w.heap.size) (w.alloc ob) (H.set id (some blk0)):=by
 have u:=Q_ c s;have p:=HB s;have g:=iQ.alloc w ob
 have f:∀i,i≠id->aS (M.i_ id w.heap.size) (H.set id (some blk0)) i=aS M H i:=by
  intro i hi;unfold aS;rw[getElem?_set_ne hi]
  split<;>simp_all [Mm.i_]
 have q:aS (M.i_ id w.heap.size) (H.set id (some blk0)) id=some w.heap.size:=by
  unfold aS;rw[aak p]
  cases blk0<;>first|(simp[ax.pv] at n;done)|simp[Mm.i_]
 have d:eI M H w (M.i_ id w.heap.size) (H.set id (some blk0)) (w.alloc ob):={
  os:=g.os
  tape:=g.tape
  output:=g.output
  size:=g.size
  same:=λb a _=>g.block b a
  cells:=λb l o a _ _=>g.cell a
  n_:=λb a r=>by simp only[Mm.i_];rw[if_neg an];exact r
  jz:=λb l a r=>⟨l,by simp only[Mm.i_];rw[if_neg an];exact r,aaf _⟩
  limo:=λb a _=>by simp only[Mm.i_];rw[if_neg an]
  own:=λb a v=>by
   obtain⟨i,hi⟩:=v
   by_cases e:i=id
   .subst e;rw[q] at hi;cases hi;omega
   .rw[f i e] at hi;exact⟨i,hi⟩
  fm:=rfl }
 have m:fe M (M.i_ id w.heap.size) H.length:=λi _ hi=>by
  have:i≠id:=λe=>by subst e;rw[u] at hi;cases hi
  simp only[Mm.i_,hi,ack,true_and,if_neg this];exact vm.refl _
 refine⟨d,m,⟨λi=>?_,λi y a=>?_,λi h b j k=>?_,c.oW.step d c m⟩⟩
 .by_cases e:i=id
  .subst e;simp only[Mm.i_,decide_true,aaI,true_iff];exact⟨_,aak p⟩
  .simp only[Mm.i_,e,decide_false,ach];rw[getElem?_set_ne e];exact c.rX i
 .by_cases e:i=id
  .subst e;rw[aak p] at a;simp only[aab.injEq] at a;subst a;exact t d m
  .rw[getElem?_set_ne e] at a;refine aJ.step d c m a (λb f=>?_) rfl;have x:=c.gh ⟨i,f⟩;refine⟨g.block b x,?_⟩;simp only[Mm.i_];rw[if_neg an]
 .by_cases e:i=id
  .by_cases e':h=id
   .omega
   .subst e;rw[q] at j;rw[f h e'] at k;cases j;have:=c.gh ⟨h,k⟩;omega
  .by_cases e':h=id
   .subst e';rw[q] at k;rw[f i e] at j;cases k;have:=c.gh ⟨i,j⟩;omega
   .rw[f i e] at j;rw[f h e'] at k;exact c.inj i h b j k
def zve{cs:List V}{xs:List Value}(h:ai M w cs xs):xs.take cs.length=xs:=by rw[<-ic h];exact List.take_length
def Ra(b:aG M w H){id:Nat}(e:lK H id=true){cs:List V}{xs:Array Value}{t:TypeId}(d:ai M w cs xs.toList)(f:∀c∈cs,c.fB=true) :
  eI M H w (M.i_ id w.heap.size) (H.set id (some (.cells cs))) (w.alloc (.cells xs t))/\fe M (M.i_ id w.heap.size) H.length /\
  aG (M.i_ id w.heap.size) (w.alloc (.cells xs t)) (H.set id (some (.cells cs))):=by
 refine MH b e rfl λa g=>?_;simp only[aJ];refine⟨f,by simp[Mm.i_],xs,t,?_,ai.step a b g (by rw[zve d];exact d)⟩;simp only[Mm.i_,if_true];exact heap_alloc_new w _
def Mm.cJ(M:Mm)(b l:Nat):Mm:={ M with gP:=λk=>if k=b then some l else M.gP k }
def Rb(d:aG M w H){id:Nat}{blk0 blk1:ax}(n:H[id]?=some (some blk0))(v:blk0.pv=false)(g:blk1.pv=false)(p:M.gP (M.j id)=some 0)(l:Nat)
  (os:w'.os=w.os) (tape:w'.tape=w.tape) (output:w'.output=w.output) (size:w'.heap.size=w.heap.size) (q:∀b,b≠M.j id->w'.heap[b]?=w.heap[b]?)
  (x:eI M H w (M.cJ (M.j id) l) (H.set id (some blk1)) w'->fe M (M.cJ (M.j id) l) H.length->aJ (M.cJ (M.j id) l) w' id blk1) :
  eI M H w (M.cJ (M.j id) l) (H.set id (some blk1)) w'/\fe M (M.cJ (M.j id) l) H.length/\aG (M.cJ (M.j id) l) w' (H.set id (some blk1)):=by
 have r:id<H.length:=(aad.1 n).1;have y:M.al id=true:=(d.rX id).2 ⟨_,n⟩
 have h:aS M H id=some (M.j id):=by
  unfold aS;rw[n]
  cases blk0<;>first|(simp[ax.pv] at v;done)|rfl
 have s:∀i,aS (M.cJ (M.j id) l) (H.set id (some blk1)) i=aS M H i:=by
  intro i
  by_cases e:i=id
  .subst e;rw[h];unfold aS;rw[aak r]
   cases blk1<;>first|(simp[ax.pv] at g;done)|rfl
  .unfold aS;rw[getElem?_set_ne e];rfl
 have c:eI M H w (M.cJ (M.j id) l) (H.set id (some blk1)) w':={
  os:=os
  tape:=tape
  output:=output
  size:=by rw[size];exact aaf _
  same:=λb _ f=>q b (λe=>f ⟨id,by rw[h,e]⟩)
  cells:=λb l o _ a f=>by
   by_cases e:b=M.j id
   .subst e;rw[p] at a;cases a;omega
   .exact World.cell?_of_block (w:=w) (q b e)
  n_:=λb _ a=>by
   simp only[Mm.cJ]
   rw[if_neg];· exact a
   intro e;subst e;rw[p] at a;cases a
  jz:=λb z _ a=>by
   simp only[Mm.cJ]
   by_cases e:b=M.j id
   .subst e;rw[p] at a;cases a;exact⟨l,ir,abP _⟩
   .exact⟨z,by rw[if_neg e];exact a,aaf _⟩
  limo:=λb _ f=>by
   simp only[Mm.cJ];rw[if_neg];intro e;exact f ⟨id,by rw[h,e]⟩
  own:=λb _ f=>by obtain⟨i,hi⟩:=f;exact⟨i,by rw[<-s];exact hi⟩
  fm:=rfl }
 have k:fe M (M.cJ (M.j id) l) H.length:=λi _ hi=>⟨hi,rfl,vm.refl _⟩;refine⟨c,k,⟨λi=>?_,λi C hi=>?_,λi A b g t=>?_,d.oW.step c d k⟩⟩
 .by_cases e:i=id
  .subst e;simp only[Mm.cJ,y,true_iff];exact⟨_,aak r⟩
  .rw[getElem?_set_ne e];exact d.rX i
 .by_cases e:i=id
  .subst e;rw[aak r] at hi;simp only[aab.injEq] at hi;subst hi;exact x c k
  .rw[getElem?_set_ne e] at hi
   have u:∀b,aS M H i=some b->b≠M.j id:=λb m B=>by subst B;exact e (d.inj i id _ m h)
   refine aJ.step c d k hi (λb m=>⟨q b (u b m),?_⟩) rfl;simp only[Mm.cJ];rw[if_neg (u b m)]
 .rw[s] at g t;exact d.inj i A b g t
def VE(a:aG M w H){id:Nat}{cs ds:List V}(g:H[id]?=some (some (.cells cs))){xs:Array Value}{t:TypeId}
  (v:w.heap[M.j id]?=some (.cells xs t (0,0))) {ys:Array Value} (hd:ai M w ds (ys.toList.take ds.length)) (x:∀c∈ds,c.fB=true) :
  eI M H w M (H.set id (some (.cells ds))) (w.setRow (M.j id) ys)/\fe M M H.length/\aG M (w.setRow (M.j id) ys) (H.set id (some (.cells ds))):=by
 have p:M.al id=true:=(a.rX id).2 ⟨_,g⟩;have h:=a.lt p
 have m:aS M H id=some (M.j id):=by simp[aS,g]
 have q:∀i,aS M (H.set id (some (.cells ds))) i=aS M H i:=by
  intro i
  by_cases e:i=id
  .subst e;rw[m];unfold aS;rw[aak h]
  .unfold aS;rw[getElem?_set_ne e]
 have r:M.gP (M.j id)=some 0:=by have:=a.rel id _ g;simp only[aJ] at this;exact this.2.1
 have n:∀k,k≠M.j id->(w.setRow (M.j id) ys).heap[k]?=w.heap[k]?:=λk y=>setRow_other w (M.j id) k ys (λe=>y e)
 have d:eI M H w M (H.set id (some (.cells ds))) (w.setRow (M.j id) ys):={
  os:=rfl
  tape:=rfl
  output:=rfl
  size:=by simp[World.setRow]
  same:=λb z f=>n b (λe=>f ⟨id,by rw[m,e]⟩)
  cells:=λb l o z hl f=>by
   by_cases e:b=M.j id
   .subst e;rw[r] at hl;cases hl;omega
   .exact World.cell?_of_block (w:=w) (n b e)
  n_:=λ_ _ hl=>hl
  jz:=λb l _ hl=>⟨l,hl,aaf _⟩
  limo:=λ_ _ _=>rfl
  own:=λb _ f=>by obtain⟨i,hi⟩:=f;exact⟨i,by rw[<-q];exact hi⟩
  fm:=rfl }
 refine⟨d,fe.refl _ _,⟨λi=>?_,λi D hi=>?_,λi A b s u=>?_,a.oW.step d a (fe.refl _ _)⟩⟩
 .by_cases e:i=id
  .subst e;simp only[p,true_iff];exact⟨_,aak h⟩
  .rw[getElem?_set_ne e];exact a.rX i
 .by_cases e:i=id
  .subst e;rw[aak h] at hi;simp only[aab.injEq] at hi;subst hi;simp only[aJ];exact⟨x,r,ys,t,setRow_heap w (M.j i) xs ys t _ v,ai.step d a (fe.refl _ _) hd⟩
  .rw[getElem?_set_ne e] at hi;refine aJ.step d a (fe.refl _ _) hi (λb B=>⟨n b (λC=>?_),rfl⟩) rfl;subst C;exact e (a.inj i id _ B m)
 .rw[q] at s u;exact a.inj i A b s u
def Mm.mF(M:Mm)(id:Nat)(z:Z):Mm :=
 { M with al:=λi=>decide (i=id)||M.al i,z:=λi=>if i=id then z else M.z i,
          gP:=λk=>if z.cH=some k then some (z.n*z.sz) else M.gP k }
def VF(c:aG M w H){id:Nat}{z:Z}(r:lK H id=true\/∃k,H[id]?=some (some (.zone k)))
  (os:w'.os=w.os) (tape:w'.tape=w.tape) (output:w'.output=w.output) (size:w.heap.size<=w'.heap.size)
  (u:∀b,b<w.heap.size->aS M H id≠some b->w'.heap[b]?=w.heap[b]?)
  (E:∀b l o,aS M H id=some b->M.gP b=some l->o<l->w'.cell? ⟨b,o,none⟩=w.cell? ⟨b,o,none⟩)
  (f:∀b,z.cH=some b->w.heap.size<=b\/aS M H id=some b)
  (F:∀b l,aS M H id=some b->z.cH=some b->M.gP b=some l->l<=z.n*z.sz)
  (v:M.al id=true->vm (M.z id) z)
  (t:match z.cH with
   | none=>z.cap=z.n
   | some b=>0<z.n/\z.n<=z.cap/\0<z.sz/\∃xs e,w'.heap[b]?=some (.cells xs e (0,0))/\xs.size=z.cap*z.sz) :
  eI M H w (M.mF id z) (H.set id (some (.zone z.n))) w'/\fe M (M.mF id z) H.length/\aG (M.mF id z) w' (H.set id (some (.zone z.n))):=by
 have G:id<H.length:=by
  rcases r with r|⟨k,r⟩
  .exact HB r
  .exact(aad.1 r).1
 have x:(H.set id (some (ax.zone z.n)))[id]?=some (some (.zone z.n)):=aak G
 have y:aS (M.mF id z) (H.set id (some (.zone z.n))) id=z.cH:=by simp only[aS,x,Mm.mF,if_true]
 have s:∀i,i≠id->aS (M.mF id z) (H.set id (some (.zone z.n))) i=aS M H i:=by
  intro i hi;unfold aS;rw[getElem?_set_ne hi]
  split<;>simp_all [Mm.mF]
 have g:eI M H w (M.mF id z) (H.set id (some (.zone z.n))) w':={
  os:=os
  tape:=tape
  output:=output
  size:=size
  same:=λb a j=>u b a (λe=>j ⟨id,e⟩)
  cells:=λb l o a m j=>by
   by_cases e:aS M H id=some b
   .exact E b l o e m j
   .exact World.cell?_of_block (w:=w) (u b a e)
  n_:=λb a m=>by
   simp only[Mm.mF]
   rw[if_neg];· exact m
   intro e
   rcases f b e with h|h
   .omega
   .obtain⟨l,gC⟩:=c.s9 ⟨id,h⟩;rw[m] at gC;cases gC
  jz:=λb l a m=>by
   by_cases e:z.cH=some b
   .refine⟨z.n*z.sz,by simp only[Mm.mF,e,if_true],?_⟩
    rcases f b e with h|h
    .omega
    .exact F b l h e m
   .exact⟨l,by simp only[Mm.mF];rw[if_neg e];exact m,aaf _⟩
  limo:=λb a j=>by
   simp only[Mm.mF];rw[if_neg];intro e
   rcases f b e with h|h
   .omega
   .exact j ⟨id,h⟩
  own:=λb a j=>by
   obtain⟨i,hi⟩:=j
   by_cases e:i=id
   .subst e;rw[y] at hi
    rcases f b hi with h|h
    .omega
    .exact⟨i,h⟩
   .rw[s i e] at hi;exact⟨i,hi⟩
  fm:=rfl }
 have A:fe M (M.mF id z) H.length:=λi _ hi=>by
  refine⟨by simp only[Mm.mF,hi,ack],rfl,?_⟩;simp only[Mm.mF];split
  .rename_i e;subst e;exact v hi
  .exact vm.refl _
 refine⟨g,A,⟨λi=>?_,λi J a=>?_,λi d b p q=>?_,c.oW.step g c A⟩⟩
 .by_cases e:i=id
  .subst e;simp only[Mm.mF,decide_true,aaI,true_iff];exact⟨_,x⟩
  .simp only[Mm.mF,e,decide_false,ach];rw[getElem?_set_ne e];exact c.rX i
 .by_cases e:i=id
  .subst e;rw[x] at a;simp only[aab.injEq] at a;subst a;simp only[aJ,Mm.mF,if_true,true_and]
   cases B:z.cH with
   | none=>simp only[B] at t |-;exact t
   | some b=>simp only[B,if_true,true_and] at t |-;exact t
  .rw[getElem?_set_ne e] at a;refine aJ.step g c A a (λb C=>?_) (by simp only[Mm.mF];rw[if_neg e]);have I:=c.gh ⟨i,C⟩;have D:aS M H id≠some b:=λh=>e (c.inj i id b C h);refine⟨u b I D,?_⟩;simp only[Mm.mF];rw[if_neg];intro h
   rcases f b h with h|h
   .omega
   .exact D h
 .by_cases e:i=id
  .by_cases e':d=id
   .omega
   .subst e;rw[y] at p;rw[s d e'] at q
    rcases f b p with h|h
    .have:=c.gh ⟨d,q⟩;omega
    .exact(c.inj i d b h q)
  .by_cases e':d=id
   .subst e';rw[y] at q;rw[s i e] at p
    rcases f b q with h|h
    .have:=c.gh ⟨i,p⟩;omega
    .exact(c.inj i d b p h)
   .rw[s i e] at p;rw[s d e'] at q;exact c.inj i d b p q
def VG(M:Mm)(H:ae)(m i:Nat):aS M (H++aaj m none) i=aS M H i:=by
 unfold aS
 by_cases hi:i<H.length
 .rw[aaD hi]
 .rw[aaT an,abS (by omega:H.length<=i),abH]
  by_cases h:i-H.length<m<;>simp[h]
def zx6(H:ae)(m i:Nat)(a:ax):(H++aaj m none)[i]?=some (some a)↔H[i]?=some (some a):=by
 by_cases hi:i<H.length
 .rw[aaD hi]
 .rw[aaT an,abS (by omega:H.length<=i),abH]
  by_cases h:i-H.length<m<;>simp[h]
def Rc(a:aG M w H)(m:Nat):aG M w (H++aaj m none) :=
 ⟨λi=>(a.rX i).trans (exists_congr λc=>(zx6 H m i c).symm),λi c d=>a.rel i c ((zx6 H m i c).1 d),
  λi e b f g=>a.inj i e b (by rw[<-VG M H m];exact f) (by rw[<-VG M H m];exact g),a.oW⟩
def VH(M:Mm)(H:ae)(w:World)(m:Nat):eI M H w M (H++aaj m none) w :=
 have own:∀b,uT M (H++aaj m none) b->uT M H b:=λb ⟨i,hi⟩=>⟨i,by rw[<-VG M H m];exact hi⟩
 { eI.refl M H w with own:=λb _ a=>own b a }
def Mm.upto(M:Mm)(n:Nat):Mm:={ M with al:=λi=>decide (i<n)&&M.al i }
def V.qJ(n:Nat)(c:V)(h:c.fB=true):(c.cl n).fB=true:=by cases c<;>first|(simp[V.fB] at h;done)|rfl|(simp only[V.cl];split<;>rfl)
def V.qK(n:Nat)(c:V)(h:c.pure=true):c.cl n=c:=by
 cases c<;>first
  | rfl
  | (simp[V.pure] at h;done)
  | (rename_i b tk;cases tk<;>first|rfl|(simp[V.pure] at h;done))
  | (rename_i f a;cases a<;>first|rfl|(simp[V.pure] at h;done))
def ij(n:Nat):∀cs:List V,ba n cs=cs.map (V.cl n)
 | []=>rfl
 | c::cs=>by simp[ba,ij n cs]
def mg.upto{n:Nat}{es:List (List V)}{a:Option Addr}{cap:Nat}{tk:Tk}(h:mg M es a cap tk) :
  mg (M.upto n) es a cap (tk.cl n):=by
 cases tk with
 | no=>trivial
 | full=>exact h
 | own q =>
  simp only[Tk.cl];split
  .rename_i d;obtain⟨a,b,c⟩:=h;exact⟨by simp[Mm.upto,d,a],b,c⟩
  .trivial
mutual
def aq.upto(n:Nat):∀{c:V} {x:Value},aq M w c x->aq (M.upto n) w (c.cl n) x
 | .undef,_,_=>by simp only[V.cl,aq]
 | .mf,_,e=>by simpa only[V.cl,aq] using e
 | .any,_,e=>by simpa only[V.cl,aq] using e
 | .int _ _,_,e=>by simpa only[V.cl,aq] using e
 | .bool _,_,e=>by simpa only[V.cl,aq] using e
 | .str _,_,e=>by simpa only[V.cl,aq] using e
 | .nilp,_,e=>by simpa only[V.cl,aq] using e
 | .nilf,_,e=>by simpa only[V.cl,aq] using e
 | .nilm,_,e=>by simpa only[V.cl,aq] using e
 | .mp id,_,e=>by
  simp only[V.cl];simp only[aq] at e;split
  .rename_i h;simp only[aq];exact⟨by simp[Mm.upto,h,e.1],e.2⟩
  .simp only[aq];rw[e.2];rfl
 | .yld id,_,e=>by
  simp only[V.cl];simp only[aq] at e;split
  .rename_i h;simp only[aq];exact⟨by simp[Mm.upto,h,e.1],e.2⟩
  .simp only[aq];rw[e.2];rfl
 | .gs id k,_,e=>by
  simp only[V.cl];simp only[aq] at e;split
  .rename_i h;simp only[aq];exact⟨by simp[Mm.upto,h,e.1],e.2⟩
  .simp only[aq];obtain⟨_,d,rfl,_⟩:=e;rfl
 | .ptr id l,_,e=>by
  simp only[V.cl];simp only[aq] at e;split
  .rename_i h;simp only[aq];exact⟨by simp[Mm.upto,h,e.1],e.2⟩
  .simp only[aq];rw[e.2];rfl
 | .rs id l k _,_,e=>by
  simp only[V.cl];simp only[aq] at e;split
  .rename_i h;simp only[aq];exact⟨by simp[Mm.upto,h,e.1],e.2⟩
  .simp only[aq];obtain⟨_,d,rfl,_⟩:=e;rfl
 | .cptr m,_,e=>by
  simp only[V.cl,aq] at e |-;obtain⟨p,b,o,g,e⟩:=e
  exact⟨p,b,o,g,fL.upto n p e⟩
 | .vs s tk,_,e=>by
  simp only[V.cl,aq] at e |-;obtain⟨p,a,d,g,i,j,q⟩:=e;refine⟨p,a,d,g,i,?_,q.upto⟩
  cases a with
  | none=>exact j
  | some t=>exact⟨j.1,j.2.1,gE.upto n p j.2.2⟩
 | .fn f d,_,e=>by
  simp only[V.cl,aq] at e |-;obtain⟨xs,g,e⟩:=e
  exact⟨xs,g,ai.upto n e⟩
 | .agg m,_,e=>by
  simp only[V.cl,aq] at e |-;obtain⟨p,xs,g,e⟩:=e;refine⟨λc i=>?_,xs,g,ai.upto n e⟩;rw[ij,aa1] at i;obtain⟨c',r,rfl⟩:=i
  exact V.qJ n c' (p c' r)
 | .a_ m,_,e=>by
  simp only[V.cl,aq] at e |-;obtain⟨xs,g,e⟩:=e;exact⟨xs,g,ai.upto n e⟩
def ai.upto(n:Nat):∀{cs:List V} {xs:List Value},ai M w cs xs->ai (M.upto n) w (ba n cs) xs
 | [],_,e=>by simpa only[ba,ai] using e
 | c::cs,_,e=>by
  simp only[ba,ai] at e |-;obtain⟨x,a,b,d,f⟩:=e;exact⟨x,a,b,aq.upto n d,ai.upto n f⟩
def fL.upto(n:Nat){b:Nat}:∀{cs:List V} {o:Nat},(∀c∈cs,c.pure=true)->fL M w b cs o->fL (M.upto n) w b cs o
 | [],_,_,_=>by simp only[fL]
 | c::cs,o,p,e=>by
  simp only[fL] at e |-;obtain⟨⟨x,a,rd,f⟩,g⟩:=e;refine⟨⟨x,a,rd,?_⟩,fL.upto n (λd hd=>p d (by simp[hd])) g⟩;have:=aq.upto n f;rwa[V.qK n c (p c ir)] at this
def gE.upto(n:Nat){b:Nat}:∀{es:List (List V)} {o:Nat},(∀e∈es,∀c∈e,c.pure=true)->gE M w b es o->gE (M.upto n) w b es o
 | [],_,_,_=>by simp only[gE]
 | e::es,o,p,k=>by
  simp only[gE] at k |-;exact⟨fL.upto n (p e ir) k.1,gE.upto n (λd hd=>p d (by simp[hd])) k.2⟩
end
def Re(n:Nat)(H:ae)(i:Nat):(ak n H)[i]?=if i<n then(H[i]?).map (acd (ax.cl n)) else none:=by
 unfold ak;rw[aap,aav]
 split<;>simp
def zAE(M:Mm)(H:ae)(n i b:Nat)(h:aS (M.upto n) (ak n H) i=some b):aS M H i=some b:=by
 unfold aS at h |-;rw[Re] at h
 by_cases hi:i<n
 .rw[if_pos hi] at h
  cases a:H[i]? with
  | none=>simp[a] at h
  | some o=>cases o with
   | none=>simp[a] at h
   | some c=>cases c<;>simpa[a,ax.cl,Mm.upto] using h
 .rw[if_neg hi] at h;cases h
def AM(A:aG M w H)(n:Nat):eI M H w (M.upto n) (ak n H) w/\fe M (M.upto n) n/\aG (M.upto n) w (ak n H):=by
 have js:=zAE M H n
 have C:eI M H w (M.upto n) (ak n H) w :=
  { eI.refl M H w with
   n_:=λ_ _ h=>h
   jz:=λ_ l _ h=>⟨l,h,aaf _⟩
   limo:=λ_ _ _=>rfl
   own:=λb _ J=>by obtain⟨i,hi⟩:=J;exact⟨i,js i b hi⟩
   fm:=rfl }
 have y:∀u:List V,(∀c∈u,c.fB=true)->∀c∈ba n u,c.fB=true:=λu a v z=>by
  rw[ij,aa1] at z;obtain⟨c',B,rfl⟩:=z;exact V.qJ n c' (a c' B)
 refine⟨C,λi hi K=>⟨by simp[Mm.upto,hi,K],rfl,vm.refl _⟩,⟨λi=>?_,λi D j=>?_,λi G b E F=>A.inj i G b (js i b E) (js G b F),λg u L=>?_⟩⟩
 .rw[Re]
  by_cases hi:i<n
  .simp only[Mm.upto,hi,decide_true,aci,if_true];rw[A.rX i];constructor
   .rintro⟨D,j⟩;exact⟨D.cl n,by simp[j]⟩
   .rintro⟨D,j⟩
    cases x:H[i]? with
    | none=>simp[x] at j
    | some o=>cases o with
     | none=>simp[x] at j
     | some b=>exact⟨b,rfl⟩
  .simp[Mm.upto,hi]
 .rw[Re] at j;split at j
  .rename_i hi
   cases x:H[i]? with
   | none=>simp[x] at j
   | some o=>cases o with
    | none=>simp[x] at j
    | some I =>
     simp only[x,aaY,aab.injEq] at j;subst j;have m:=A.rel i I x
     cases I with
     | cells u =>
      simp only[aJ,ax.cl] at m |-;obtain⟨a,b,xs,e,c,d⟩:=m
      exact⟨y u a,b,xs,e,c,by rw[ij,aaJ,<-ij];exact ai.upto n d⟩
     | grow u X Y =>
      simp only[aJ,ax.cl] at m |-;obtain⟨a,b,N,O,xs,e,c,s,d,P⟩:=m
      exact⟨y u a,b,N,O,xs,e,c,s,by rw[ij,aaJ,<-ij];exact ai.upto n d,by rw[ij,aaJ];exact P⟩
     | zone k=>simpa only[aJ,ax.cl,Mm.upto] using m
     | jy u =>
      simp only[aJ,ax.cl] at m |-;obtain⟨a,b,xs,e,c,d⟩:=m;refine⟨λv z=>?_,by rw[ij,aaJ];exact b,xs,e,c,by rw[ij,aaJ,<-ij];exact ai.upto n d⟩;rw[ij,aa1] at z;obtain⟨c',B,rfl⟩:=z
      rw[V.qK n c' (a c' B)];exact a c' B
     | map Z =>
      simp only[aJ,ax.cl] at m |-;obtain⟨b,ents,c,d,d',f⟩:=m;refine⟨b,ents,by rw[aaJ];exact c,?_,?_,f⟩
      .have:=ai.upto n d;rw[ij,abC] at this;rw[abC];exact this
      .have:=ai.upto n d';rw[ij,abC] at this
       rw[abC];exact this
     | dF t pos=>simpa only[aJ,ax.cl,Mm.upto] using m
     | loop e0 ps as bo st =>
      simp only[aJ,ax.cl] at m |-;obtain⟨a,r,Q,E,F,R,S,T⟩:=m;refine⟨a,r,Q,E,F,R,S,λp U=>?_⟩;obtain⟨q,W,rfl⟩:=aa1.1 U;exact aq.upto n (T q W)
  .cases j
 .have:=aq.upto n (A.oW g u L);simpa only[V.cl] using this
open Go Go.RowKit
variable {P:Program} {M M':Mm} {H H1:ae} {w w':World}
def ua:Value->V->Bool
 | .int k n,.int a c=>k==a&&n==c
 | .bool b,.bool d=>b==d
 | .string s,.str s'=>decide (s.data.toList=s')
 | .pointer none,.nilp=>true
 | .slice none 0 0,.vs [] .full=>true
 | .nilFunc,.nilf=>true
 | .map none,.nilm=>true
 | _,_=>false
def sE:List Value->List V->Bool
 | [],[]=>true
 | x::xs,c::a=>ua x c&&sE xs a
 | _,_=>false
def HE:Value->V->Bool
 | .agg xs,.agg a=>sE xs.toList a
 | x,c=>ua x c
def Rh{x:Value}{c:V}(h:ua x c=true):aq M w c x:=by
 unfold ua at h
 split at h<;>(try simp only[aaq,aag,beq_iff_eq,decide_eq_true_eq] at h)
 .obtain⟨rfl,rfl⟩:=h;simp only[aq]
 .subst h;simp only[aq]
 .subst h;simp only[aq]
 .simp only[aq]
 .simp only[aq];exact⟨ir,none,0,rfl,aaf _,ir,by simp[mg]⟩
 .simp only[aq]
 .simp only[aq]
def zAF{x:Value}{c:V}(h:ua x c=true):c.pure=true:=by
 unfold ua at h
 split at h<;>first|rfl|simp at h
def FM:∀{xs:List Value} {cs:List V},sE xs cs=true->ai M w cs xs
 | [],[],_=>by simp only[ai]
 | [],_::_,h=>by simp[sE] at h
 | _::_,[],h=>by simp[sE] at h
 | x::xs,c::cs,h=>by
  simp only[sE,aag] at h;simp only[ai];exact⟨x,xs,rfl,Rh h.1,FM h.2⟩
def HF:∀{xs:List Value} {cs:List V},sE xs cs=true->∀c∈cs,c.pure=true
 | [],[],_=>by simp
 | [],_::_,h=>by simp[sE] at h
 | _::_,[],h=>by simp[sE] at h
 | x::xs,c::cs,h=>by
  simp only[sE,aag] at h;intro d hd;simp only[acj] at hd
  rcases hd with rfl|hd
  .exact zAF h.1
  .exact HF h.2 d hd
def zC8{x:Value}{c:V}(h:HE x c=true):aq M w c x:=by
 unfold HE at h;split at h
 .rename_i xs b;simp only[aq];exact⟨λc a=>V.cr (HF h c a),xs.toList,ir,FM h⟩
 .exact Rh h
def zC9{a b:V}(h:a.eqc b=some true):a=b:=by
 cases a<;>cases b<;>simp only[V.eqc,reduceCtorEq,aab.injEq] at h
 .split at h
  .rename_i c;subst c;simp at h;subst h;rfl
  .cases h
 .simp at h;subst h;rfl
 .simp at h;subst h;rfl
def ztn:∀{as c:List V},zf as c=some true->as=c
 | [],[],_=>rfl
 | [],_::_,h=>by simp[zf] at h
 | _::_,[],h=>by simp[zf] at h
 | a::as,b::c,h=>by
  simp only[zf] at h;split at h
  .rename_i x y d e;simp only[aab.injEq,aag] at h;obtain⟨rfl,rfl⟩:=h;rw[zC9 d,ztn e]
  .cases h
def aI(fm:Fm):Operand->X->Bool
 | .tmp t,.t i=>t==i
 | .const v,.c c=>HE v c
 | .func f,.c (.fn a [])=>f==fm a
 | .global g,.c (.cptr b)=>match fm.gl g with|some ds=>zf ds b==some true|none=>false
 | _,_=>false
structure bn (M:Mm) (w:World) (e:Env) (a:Act) (n:Nat):Prop where
 size:a.tmps.size=n
 defers:a.defers.Nodup/\∀d∈a.defers,∃D,d={ target:=.collected D,args:=#[] }/\w.heap[D]?=some (.deferred (some []))
 rel:∀i,aq M w (e i) (a.tmps.getD i undef)
 oW:AB M w
def fP{e:Env}{a:Act}{n:Nat}{o:Operand}{x:X}(h:aI M.fm o x=true)(b:bn M w e a n):aq M w (x.ev e) (a.eval o):=by
 unfold aI at h
 split at h<;>(try simp only[beq_iff_eq,aaq] at h)
 .subst h;exact b.rel _
 .exact zC8 h
 .subst h;simp only[X.ev,aq,Act.eval];exact⟨[],rfl,by simp only[ai]⟩
 .split at h
  .rename_i ds hd;have:=ztn (by simpa using h);subst this;exact b.oW _ _ hd
  .cases h
def qn(fm:Fm):List Operand->List X->Bool
 | [],[]=>true
 | o::a,x::xs=>aI fm o x&&qn fm a xs
 | _,_=>false
def DI{e:Env}{a:Act}{n:Nat}:∀{os:List Operand} {xs:List X},qn M.fm os xs=true->bn M w e a n->ai M w (xs.map (X.ev e)) (os.map a.eval)
 | [],[],_,_=>by simp only[aax,ai]
 | [],_::_,h,_=>by simp[qn] at h
 | _::_,[],h,_=>by simp[qn] at h
 | o::os,x::xs,h,b=>by
  simp only[qn,aag] at h;simp only[aau,ai];exact⟨_,_,rfl,fP h.1 b,DI h.2 b⟩
def oi(fm:Fm):Option Operand->Option X->Bool
 | none,none=>true
 | some o,some x=>aI fm o x
 | _,_=>false
def iw(P:Program)(t:TypeId)(sz:Nat)(a:Bool):Bool :=
 match P.underlying t,P.info? t with
 | some d,some i=>i.size==sz&&(if d.isRow then a else !a&&sz==1)
 | _,_=>false
def VI{c:V}{x:Value}{cs:List V}(h:aq M w c x)(a:c.cells?=some cs):ai M w cs x.cells.toList/\∀d∈cs,d.fB=true:=by
 cases c<;>simp only[V.cells?,aab.injEq,reduceCtorEq] at a<;>subst a
 case agg cs=>simp only[aq] at h;obtain⟨p,xs,rfl,h⟩:=h;exact⟨by simpa[Value.cells] using h,p⟩
 all_goals
  have b:=VC h rfl;refine⟨?_,by simp[V.fB]⟩
  have:x.cells=#[x]:=by cases x<;>simp_all [Value.cells,Value.oneCell']
  rw[this];simp only[ai];exact⟨x,[],rfl,h,rfl⟩
def di(P:Program)(o:Oper)(a:Act)(M:Mm)(H:ae)(w:World)(v:V)(H1:ae):Prop :=
 ∃n w' M',(execOp a.eval o).run P w=.ok n w'/\(match n with|.value rv=>aq M' w' v rv|.skip=>v=.undef|_=>False) /\
  eI M H w M' H1 w'/\fe M M' H.length/\aG M' w' H1
def di.plain{o:Oper}{a:Act}{v:V}{rv:Value}(b:aG M w H)(h:(execOp a.eval o).run P w=.ok (.value rv) w)(c:aq M w v rv):di P o a M H w v H :=
 ⟨_,w,M,h,c,eI.refl M H w,fe.refl _ _,b⟩
section
variable {e:Env} {a:Act} {n:Nat} {o:Oper} {v:V}
def zFf{x:Operand}{c:X}(b:o.op=.move x\/o.op=.assign x)(d:aI M.fm x c=true)(f:bn M w e a n)(g:aG M w H):di P o a M H w (c.ev e) H:=by
 refine .plain (rv:=a.eval x) g ?_ (fP d f)
 rcases b with b|b<;>simp[execOp,b]
def zFI{c x y:Operand}{sc f g:X}(i:o.op=.pick c x y)(j:aI M.fm c sc=true)(k:aI M.fm x f=true)(l:aI M.fm y g=true)(d:bn M w e a n)(m:aG M w H)
  {b:Bool} (p:sc.ev e=.bool b):di P o a M H w (if b then f.ev e else g.ev e) H:=by
 have h:=fP j d;rw[p] at h;simp only[aq] at h;refine .plain (rv:=if b then a.eval x else a.eval y) m ?_ (by cases b<;>simp[fP k d,fP l d])
 cases b<;>simp[execOp,i,h,asBool]
def zHi{t:TypeId}{x:Operand}{b:X}{id:Nat}{cs:List V}(c:o.op=.box t x)(d:aI M.fm x b=true)(f:bn M w e a n)(g:aG M w H)
  (h:(b.ev e).cells?=some cs) (j:lK H id=true):di P o a M H w (.ptr id 0) (H.set id (some (.cells cs))):=by
 obtain⟨k,l⟩:=VI (fP d f) h;obtain⟨s,i,r⟩:=Ra (t:=t) g j k l;refine⟨.value (.pointer (some ⟨w.heap.size,0,none⟩)),_,_,?_,?_,s,i,r⟩
 .simp[execOp,c,Instr.box,newVar,newRow]
 .simp only[aq,Mm.i_,decide_true,aaI,if_true,true_and]
def zDa{t:TypeId}{id:Nat}{z:List V}{i:TypeInfo}{b:Value}(e:o.op=.alloc t)(hi:P.info? t=some i)(f:i.zero=some b)(d:sE b.cells.toList z=true)
  (g:aG M w H) (h:lK H id=true):di P o a M H w (.ptr id 0) (H.set id (some (.cells z))):=by
 obtain⟨s,j,r⟩:=Ra (t:=t) (xs:=b.cells) g h (FM (M:=M) (w:=w) d) (λc k=>V.cr (HF d c k));refine⟨.value (.pointer (some ⟨w.heap.size,0,none⟩)),_,_,?_,?_,s,j,r⟩
 .simp[execOp,e,Instr.alloc,zeroValue,typeInfo,hi,f,newVar,newRow]
 .simp only[aq,Mm.i_,decide_true,aaI,if_true,true_and]
def pz(a:Bool)(xs:List Value):Value:=if a then .agg xs.toArray else xs.headD undef
def MJ{b:Bool}{cs:List V}{xs:List Value}(a:mk b cs=some v)(d:ai M w cs xs)(e:∀c∈cs,c.fB=true):aq M w v (pz b xs):=by
 unfold mk at a
 cases b with
 | true=>simp only[if_true,aab.injEq] at a;subst a;simp only[aq,pz,if_true];exact⟨e,xs,rfl,d⟩
 | false =>
  simp only[aaq,if_false] at a;split at a
  .simp only[aab.injEq] at a;subst a;simp only[ai] at d;obtain⟨x,f,rfl,h,rfl⟩:=d;simpa[pz] using h
  .cases a
def VJ{t:TypeId}{sz:Nat}{e:Bool}{b off:Nat}{xs:List Value}(a:iw P t sz e=true)(f:xs.length=sz)(c:w.rangeAt b off xs) :
  (Instr.loadAt t (.pointer (some ⟨b,off,none⟩))).run P w=.ok (pz e xs) w:=by
 unfold iw at a;split at a
 .rename_i d i g hi;simp only[aag,beq_iff_eq] at a;obtain⟨j,a⟩:=a
  by_cases hd:d.isRow=true
  .rw[if_pos hd] at a;subst a;simp only[pz,if_true];exact run_loadAt_mid w b off t xs d c g hd (by rw[hi];simp[j,f])
  .rw[if_neg hd] at a;simp only[aag,ab5,beq_iff_eq] at a;obtain⟨rfl,rfl⟩:=a
   match xs,f,c with
   | [x],_,c =>
    have h:=c 0 x rfl;simp only[abo] at h
    have k:(isAgg t).run P w=.ok false w:=by
     unfold isAgg;rw[Sem.run_bind,run_underlying g w]
     cases d<;>simp_all [TypeDesc.isRow]
    simp[Instr.loadAt,Instr.sureAddr,loadVar,k,pz,load,Sem.run,h]
 .cases a
def znX{b off:Nat}{cs:List V}(h:fL M w b cs off):∃xs:List Value,ai M w cs xs/\w.rangeAt b off xs:=by
 induction cs generalizing off with
 | nil=>exact⟨[],by simp only[ai],λj v a=>by simp at a⟩
 | cons c cs d =>
  simp only[fL] at h;obtain⟨⟨x,e,_,f⟩,h⟩:=h;obtain⟨xs,g,i⟩:=d h;refine⟨x::xs,by simp only[ai];exact⟨x,xs,rfl,f,g⟩,λj v a=>?_⟩
  cases j with
  | zero=>simp at a;subst a;simpa using e
  | succ j=>simp at a;have:=i j v a;rw[show off+1+j=off+(j+1) by omega] at this;exact this
def zxn{b off k:Nat}{cs:List V}(h:fL M w b cs off):fL M w b (cs.take k) off:=by
 refine DF λi c a=>?_;rw[aav] at a;split at a
 .exact VA h a
 .cases a
def zpP{b off k:Nat}{cs:List V}(h:fL M w b cs off):fL M w b (cs.drop k) (off+k):=by refine DF λi c a=>?_;rw[abj] at a;have:=VA h a;rw[show off+(k+i)=off+k+i by omega] at this;exact this
def Ri{t:TypeId}{x:Operand}{y:X}{base sz:Nat}{i old:Bool}(z:o.op=.load t x)(E:aI M.fm x y=true)(A:iw P t sz i=true)(F:bn M w e a n)(l:aG M w H)
  (d:aU base e H (.load sz i old y)=some (v,H1)):di P o a M H w v H1:=by
 have g:=fP E F;simp only[aU] at d;split at d
 .rename_i id off m;split at d
  .cases d
  .split at d
   .rename_i p G;split at d
    .rename_i q;rw[aal] at d;obtain⟨I,r,d⟩:=d;cases d;rw[m] at g;simp only[aq] at g;have B:=l.rel id _ G;simp only[aJ] at B;obtain⟨J,_,xs,K,L,C⟩:=B;have h:=ic C;refine .plain (rv:=pz i (((xs.toList.take p.length).drop off).take sz)) l ?_ (MJ r (wE (yj C off) sz) (λc s=>J c (aan (aai s))))
     have:=VJ (P:=P) (w:=w) (b:=M.j id) (off:=off) (xs:=((xs.toList.take p.length).drop off).take sz) A (by rw[aae,aao,h];omega) (λj u f=>by
      rw[aav] at f;split at f
      .rw[abj,aav] at f;split at f
       .rw[cell_of_row w (M.j id) (off+j) xs K (0,0) L];simpa using f
       .cases f
      .cases f)
     simp[execOp,z,g.2,this]
    .cases d
   .cases d
 .rename_i p m;split at d
  .rename_i q;rw[aal] at d;obtain⟨I,r,d⟩:=d;cases d;rw[m] at g;simp only[aq] at g;obtain⟨N,b,off,O,Q⟩:=g;obtain⟨xs,D,R⟩:=znX (zxn (k:=sz) Q);refine .plain (rv:=pz i xs) l ?_ (MJ r D (λc s=>V.cr (N c (aai s))));have:=VJ (P:=P) (w:=w) A (by rw[ic D];simp;omega) R;simp[execOp,z,O,this]
  .cases d
 .cases d
def Rj{xs:Array Value}{k i:Nat}{x:Value}(h:(xs.toList.take k)[i]?=some x):xs[i]?=some x:=by
 rw[aav] at h;split at h
 .simpa using h
 .cases h
def zq1{l n:List Value}{k off:Nat}(j:k<=l.length)(h:off+n.length<=k) :
  (l.take off++n++l.drop (off+n.length)).take k=(l.take k).take off++n++(l.take k).drop (off+n.length):=by
 have d:(l.take k).length=k:=by rw[aae];omega
 obtain⟨a,c⟩:=bb (l.take k);obtain⟨b,e⟩:=bb (l.drop k)
 have f:l=a++b:=by rw[c,e,aa2]
 rw[<-c] at d |-;have g:(a++b).take off=a.take off:=List.take_append_of_le_length an;have i:(a++b).drop (off+n.length)=a.drop (off+n.length)++b:=List.drop_append_of_le_length an;rw[f,g,i,<-aby];refine List.take_left' ?_;simp only[aar,aae,aao];omega
def Rk{t:TypeId}{x y:Operand}{A B:X}{base sz:Nat}(O:o.op=.store t x y)(Q:aI M.fm x A=true)(R:aI M.fm y B=true)(hi:(P.info? t).map (·.size)=some sz)
  (C:bn M w e a n) (D:aG M w H) (d:aU base e H (.store sz A B)=some (v,H1)):di P o a M H w v H1:=by
 have p:=fP Q C;simp only[aU] at d;split at d
 .rename_i id b ds S T;split at d
  .rename_i g E;split at d
   .rename_i h;cases d;rw[S] at p;simp only[aq] at p;have F:=D.rel id _ E;simp only[aJ] at F;obtain⟨G,_,xs,U,I,q⟩:=F;have k:=ic q;obtain⟨hd,J⟩:=VI (fP R C) T;have l:=ic hd
    have V:∀u∈(a.eval y).cells.toList,u.oneCell'=true:=by
     intro u W;obtain⟨i,hi⟩:=abU W
     have K:i<ds.length:=by rw[<-l];exact(aad.1 hi).1
     obtain⟨x',L,Y⟩:=og hd (abD K);rw[hi] at L;cases L;exact VC Y (J _ (abE K))
    have N:g.length<=xs.toList.length:=by rw[aae] at k;omega
    have Z:g.length<=xs.size:=by simpa using N
    have m:=run_storeCells_at P (M.j id) b U (a.eval y).cells.toList 0 xs w I (by rw[l];omega) V;simp only[abo] at m
    obtain⟨s,ii,r⟩:=VE (ds:=g.take b++ds++g.drop (b+sz)) D E I (ys:=(xs.toList.take b++(a.eval y).cells.toList++xs.toList.drop (b+(a.eval y).cells.toList.length)).toArray)
     (by
      rw[show(g.take b++ds++g.drop (b+sz)).length=g.length by simp only[aar,aae,aao];omega];simp only[];rw[zq1 N (by rw[l];omega)];refine ze (ze (wE q b) hd) ?_;rw[l,h.1]
      exact yj q _)
     (λc f=>by
      simp only[aba] at f
      rcases f with(f|f)|f
      .exact G c (aai f)
      .exact J c f
      .exact G c (aan f))
    refine⟨.skip,_,_,?_,rfl,s,ii,r⟩
    have dC:(a.eval y).cells.size=sz:=by rw[<-aaA,l,h.1]
    cases z:P.info? t with
    | none=>simp[z] at hi
    | some i =>
     have nN:i.size=sz:=by simpa[z] using hi
     have VL:(storeVar t ⟨M.j id,b,none⟩ (a.eval y)).run P w=(storeCells ⟨M.j id,b,none⟩ (a.eval y).cells.toList 0).run P w:=by simp[storeVar,sizeOf,typeInfo,z,nN,dC]
     simp only[execOp,O,Instr.storeAt,p.2,Instr.sureAddr,Sem.run_bind,Sem.run_pure,Result.andThen_ok,VL,m]
   .cases d
  .cases d
 .cases d
end
open Go Go.RowKit
variable {P:Program} {M M':Mm} {H H1:ae} {w w':World}
variable {e:Env} {a:Act} {n:Nat} {o:Oper} {v:V}
def zto{t:TypeId}{d:TypeDesc}(a:P.underlying t=some d):(isAgg t).run P w=.ok d.isRow w:=by
 unfold isAgg;rw[Sem.run_bind,run_underlying a w]
 cases d<;>simp[TypeDesc.isRow]
def VM{t:TypeId}{sz off:Nat}{b:Bool}{xs:Array Value}(a:iw P t sz b=true)(g:off+sz<=xs.size) :
  (part t xs off).run P w=.ok (pz b ((xs.toList.drop off).take sz)) w:=by
 unfold iw at a;split at a
 .rename_i d i c hi;simp only[aag,beq_iff_eq] at a;obtain⟨f,a⟩:=a
  by_cases hd:d.isRow=true
  .rw[if_pos hd] at a;subst a
   have:xs.extract off (off+sz)=((xs.toList.drop off).take sz).toArray:=by apply ace;simp[Array.toList_extract,abA]
   simp[part,zto c,hd,sizeOf,typeInfo,hi,f,pz,this]
  .rw[if_neg hd] at a;simp only[aag,ab5,beq_iff_eq] at a;obtain⟨rfl,rfl⟩:=a
   have e:off<xs.size:=an
   have:(xs.toList.drop off).take 1=[xs[off]]:=by rw[List.drop_eq_getElem_cons (by simpa using e)];simp
   simp[part,zto c,hd,e,pz,this]
 .cases a
def Kg(P:Program)(t:TypeId)(f:Nat)(off:Nat):Option TypeId :=
 match P.underlying t with
 | some (.struct b)=>match b[f]? with
  | some a=>if a.offset=off then some a.type else none
  | none=>none
 | _=>none
def zDb{t:TypeId}{x:Operand}{l:X}{f base off ft:Nat}{i:TypeInfo}(q:o.op=.fieldAddr t x f)(r:aI M.fm x l=true)(d:Kg P t f off=some ft)
  (hi:P.info? ft=some i) (s:i.size≠0) (u:bn M w e a n) (m:aG M w H) (h:aU base e H (.pX off l)=some (v,H1)):di P o a M H w v H1:=by
 have g:=fP r u;unfold Kg at d;split at d
 .rename_i G y;split at d
  .rename_i I z;split at d
   .rename_i A;cases d
    have p:∀b k,a.eval x=.pointer (some ⟨b,k,none⟩)->(execOp a.eval o).run P w=.ok (.value (.pointer (some ⟨b,k+off,none⟩))) w:=by intro b k B;simp[execOp,q,B,Instr.fieldAt,run_underlying y,z,Instr.sureAddr,fieldPlace,sizeOf,typeInfo,hi,s,Addr.add_lit,A]
    simp only[aU] at h;split at h
    .rename_i id k j;cases h;rw[j] at g;simp only[aq] at g;exact .plain m (p _ _ g.2) (by simp only[aq];exact⟨g.1,trivial⟩)
    .rename_i J j;cases h;rw[j] at g;simp only[aq] at g;obtain⟨C,b,k,D,E⟩:=g;exact .plain m (p _ _ D) (by simp only[aq];exact⟨λc F=>C c (aan F),b,k+off,rfl,zpP E⟩)
    .cases h
   .cases d
  .cases d
 .cases d
def zHj{t:TypeId}{x:Operand}{i:X}{f base off sz ft:Nat}{g:Bool}(l:o.op=.field t x f)(m:aI M.fm x i=true)(d:Kg P t f off=some ft)
  (p:iw P ft sz g=true) (q:bn M w e a n) (r:aG M w H) (b:aU base e H (.Hu off sz g i)=some (v,H1)):di P o a M H w v H1:=by
 have h:=fP m q;unfold Kg at d;split at d
 .rename_i G s;split at d
  .rename_i I u;split at d
   .rename_i y;cases d;simp only[aU] at b;split at b
    .rename_i J z;split at b
     .rename_i A;rw[aal] at b;obtain⟨K,B,b⟩:=b;cases b;rw[z] at h;simp only[aq] at h;obtain⟨C,xs,D,j⟩:=h;have k:=ic j;have E:=VM (P:=P) (w:=w) (xs:=xs.toArray) (off:=off) p (by simp;omega);refine .plain (rv:=pz g ((xs.drop off).take sz)) r ?_ (MJ B (wE (yj j off) sz) (λc F=>C c (aan (aai F))));simp[execOp,l,D,Instr.field,run_underlying s,u,asAgg,y,E]
     .cases b
    .cases b
   .cases d
  .cases d
 .cases d
def zxo{b:Nat}{es:List (List V)}{off sz:Nat}(h:gE M w b es off)(a:∀e∈es,e.length=sz){i:Nat}{c:List V}(hi:es[i]?=some c):fL M w b c (off+i*sz):=by
 induction es generalizing off i with
 | nil=>simp at hi
 | cons e es f =>
  simp only[gE] at h
  cases i with
  | zero=>simp at hi;subst hi;simpa using h.1
  | succ i =>
   simp at hi;have:=f h.2 (λd hd=>a d (by simp[hd])) hi;rw[a e ir] at this;rw[show off+sz+i*sz=off+(i+1)*sz by rw[aaB,aaZ];omega] at this;exact this
def elemOf?(P:Program)(t:TypeId):Option TypeId :=
 match P.underlying t with
 | some (.slice a)=>some a
 | _=>none
def elemOf?_some{t a:TypeId}(h:elemOf? P t=some a):P.underlying t=some (.slice a):=by
 unfold elemOf? at h;split at h
 .cases h;assumption
 .cases h
def arrOf?(P:Program)(t:TypeId):Option (Nat×TypeId) :=
 match P.underlying t with
 | some (.array k a)=>some (k,a)
 | _=>none
def arrOf?_some{t a:TypeId}{k:Nat}(h:arrOf? P t=some (k,a)):P.underlying t=some (.array k a):=by
 unfold arrOf? at h;split at h
 .cases h;assumption
 .cases h
def zDc{t:TypeId}{x y:Operand}{C D:X}{base sz E:Nat}{i:TypeInfo}(R:o.op=.indexAddr t x y)(S:aI M.fm x C=true)(T:aI M.fm y D=true)(U:elemOf? P t=some E)
  (hi:P.info? E=some i) (V:i.size=sz) (F:bn M w e a n) (G:aG M w H) (b:aU base e H (.qV sz C D)=some (v,H1)):di P o a M H w v H1:=by
 have h:=fP S F;have l:=fP T F;have W:=elemOf?_some U
 have I:∀(f:Addr) (g d:Nat) (k:IntKind) (j:Int),a.eval x=.slice (some f) g d->a.eval y=.int k j->0<=j->j<g ->
   (execOp a.eval o).run P w=.ok (.value (.pointer (some (f.add (j.toNat*sz))))) w:=by
  intro f g d k j Y Z h3 h4;simp[execOp,R,Y,Z,Instr.indexAt,run_underlying W,asIntOf,h3,h4,sizeOf,typeInfo,hi,V]
 simp only[aU] at b;split at b
 .rename_i es tk k j u z;split at b
  .rename_i m;split at b
   .rename_i J p;split at b
    .rename_i q;cases b;rw[u] at h;rw[z] at l;simp only[aq] at h l;obtain⟨mb,f,d,A,B,r,_⟩:=h;have ah:=(aad.1 p).1
     cases f with
     | none=>obtain⟨rfl,_⟩:=r;simp at p
     | some f =>
      obtain⟨s,⟨K,L⟩,r⟩:=r;have N:=List.mem_of_getElem? p
      have:K=sz:=by rw[<-L J N,q]
      subst this;obtain⟨O,Q,hb⟩:=f;simp only at s r;have s:=s.resolve_left (λm=>by rw[m] at p;simp at p);subst s;refine .plain G (I ⟨O,Q,none⟩ es.length d k j A l m an) ?_;simp only[aq,Addr.add_lit];exact⟨λc hc=>mb J N c hc,O,Q+j.toNat*K,rfl,zxo r L p⟩
    .cases b
   .cases b
  .cases b
 .rename_i id he k hf kk j u z;split at b
  .rename_i m;cases b;rw[u] at h;rw[z] at l;simp only[aq] at h l;obtain⟨ha,d,A,B⟩:=h;refine .plain G (I _ _ d _ j A l m.1 m.2) ?_;simp only[aq,Addr.add_lit];exact⟨ha,trivial⟩
  .cases b
 .cases b
def zAG{t:TypeId}{x y:Operand}{q r:X}{base sz s len:Nat}{i:TypeInfo}(B:o.op=.indexAddr t x y)(C:aI M.fm x q=true)(D:aI M.fm y r=true)(E:arrOf? P t=some (len,s))
  (hi:P.info? s=some i) (F:i.size=sz) (u:bn M w e a n) (z:aG M w H) (d:aU base e H (.mT len sz q r)=some (v,H1)):di P o a M H w v H1:=by
 have f:=fP C u;have g:=fP D u;have G:=arrOf?_some E
 have A:∀(b l:Nat) (k:IntKind) (j:Int),a.eval x=.pointer (some ⟨b,l,none⟩)->a.eval y=.int k j->0<=j->j<len ->
   (execOp a.eval o).run P w=.ok (.value (.pointer (some ⟨b,l+j.toNat*sz,none⟩))) w:=by
  intro b l k j I J K L;simp[execOp,B,I,J,Instr.indexAt,run_underlying G,asIntOf,K,L,sizeOf,typeInfo,hi,F,Instr.sureAddr,Addr.add_lit]
 simp only[aU] at d;split at d
 .rename_i id N k j m p;split at d
  .rename_i h;cases d;rw[m] at f;rw[p] at g;simp only[aq] at f g;exact .plain z (A _ _ _ j f.2 g h.1 h.2) (by simp only[aq];exact⟨f.1,trivial⟩)
  .cases d
 .rename_i T k j m p;split at d
  .rename_i h;cases d;rw[m] at f;rw[p] at g;simp only[aq] at f g;obtain⟨O,b,l,Q,R⟩:=f;exact .plain z (A _ _ _ j Q g h.1 h.2) (by simp only[aq];exact⟨λc S=>O c (aan S),b,_,rfl,zpP R⟩)
  .cases d
 .cases d
def zHk{t:TypeId}{x y:Operand}{q r:X}{base sz g len:Nat}{h:Bool}(B:o.op=.index t x y)(C:aI M.fm x q=true)(D:aI M.fm y r=true)(E:arrOf? P t=some (len,g))
  (f:iw P g sz h=true) (s:bn M w e a n) (F:aG M w H) (b:aU base e H (.idx len sz h q r)=some (v,H1)):di P o a M H w v H1:=by
 have l:=fP C s;have m:=fP D s;have G:=arrOf?_some E;simp only[aU] at b;split at b
 .rename_i R k j I J;split at b
  .rename_i u;rw[aal] at b;obtain⟨S,K,b⟩:=b;cases b;rw[I] at l;rw[J] at m;simp only[aq] at l m;obtain⟨L,xs,N,z⟩:=l;have A:=ic z;have O:=VM (P:=P) (w:=w) (xs:=xs.toArray) (off:=j.toNat*sz) f (by simp;omega)
   have p:∃i,P.info? g=some i/\i.size=sz:=by
    unfold iw at f;split at f
    .rename_i d i _ hi;simp only[aag,beq_iff_eq] at f;exact⟨i,hi,f.1⟩
    .cases f
   obtain⟨i,hi,p⟩:=p;refine .plain (rv:=pz h ((xs.drop (j.toNat*sz)).take sz)) F ?_ (MJ K (wE (yj z _) sz) (λc Q=>L c (aan (aai Q))));simp[execOp,B,N,m,Instr.index,asIntOf,run_underlying G,u.1,u.2.1,sizeOf,typeInfo,hi,p,O]
  .cases b
 .cases b
def valOf:V->Value
 | .int k n=>.int k n
 | .bool b=>.bool b
 | .str s=>.string ⟨s.toArray⟩
 | _=>undef
def zgZ(s:List UInt8):(ByteArray.mk s.toArray).size=s.length:=by simp[ByteArray.size]
def zHl{f L:TypeId}{x y:Operand}{F G:X}{base:Nat}{op:BinOp}(I:o.op=.binOp op f x y L)(N:aI M.fm x F=true)(O:aI M.fm y G=true)
  (J:bn M w e a n) (K:aG M w H) (h:aU base e H (.bin op F G)=some (v,H1)):di P o a M H w v H1:=by
 have i:=fP N J;have j:=fP O J;simp only[aU] at h;rw[aal] at h;obtain⟨d,b,h⟩:=h;simp only[ab4.injEq] at h;obtain⟨rfl,rfl⟩:=h;unfold VD at b;split at b
 .rename_i k p l q m r;rw[m] at i;rw[r] at j;simp only[aq] at i j
  have z:∀w,(eqGuard op f x y (.int k p) (.int l q)).run P w=.ok () w:=by intro w;unfold eqGuard;cases op<;>simp
  have g:(execOp a.eval o).run P w=((binOp op f (.int k p) (.int l q)).run P w).andThen λu w'=>.ok (.value u) w':=by
   simp only[execOp,I,i,j,Sem.run_bind,z,Result.andThen_ok]
   cases(binOp op f (.int k p) (.int l q)).run P w<;>simp[Result.andThen]
  have c:(binOp op f (.int k p) (.int l q)).run P w=.ok (valOf d) w->aq M w d (valOf d)->di P o a M H w d H:=by intro A B;refine .plain (rv:=valOf d) K ?_ B;rw[g,A];rfl
  cases op<;>simp only at b
  case shl|shr =>
   split at b
   .cases b
   .rename_i C;simp only[aab.injEq] at b;subst b;refine c ?_ (by simp only[aq,valOf]);simp[binOp,Op.shift,C,valOf,je,jV]
  case quo|rem =>
   split at b
   .rename_i D;subst D;split at b
    .cases b
    .rename_i C;simp only[aab.injEq] at b;subst b;refine c ?_ (by simp only[aq,valOf]);simp[binOp,Op.intDiv,C,valOf,ku,fU]
   .cases b
  all_goals
   split at b
   .rename_i D;subst D;simp only[aab.injEq] at b;subst b;refine c ?_ (by simp only[aq,valOf]);simp[binOp,Op.intArith,Op.intBits,Op.intCmp,valOf,aD,bP,dN,jU,uU,vn,Kc]
   .cases b
 .rename_i s t m r;rw[m] at i;rw[r] at j;simp only[aq] at i j
  have z:∀w,(eqGuard op f x y (.string ⟨s.toArray⟩) (.string ⟨t.toArray⟩)).run P w=.ok () w:=by intro w;unfold eqGuard;cases op<;>simp
  have g:(execOp a.eval o).run P w=((binOp op f (.string ⟨s.toArray⟩) (.string ⟨t.toArray⟩)).run P w).andThen λu w'=>.ok (.value u) w':=by
   simp only[execOp,I,i,j,Sem.run_bind,z,Result.andThen_ok]
   cases(binOp op f (.string ⟨s.toArray⟩) (.string ⟨t.toArray⟩)).run P w<;>simp[Result.andThen]
  have c:(binOp op f (.string ⟨s.toArray⟩) (.string ⟨t.toArray⟩)).run P w=.ok (valOf d) w->aq M w d (valOf d)->di P o a M H w d H:=by intro A B;refine .plain (rv:=valOf d) K ?_ B;rw[g,A];rfl
  cases op<;>simp only[aab.injEq,reduceCtorEq] at b
  case add =>
   split at b
   .rename_i E;simp only[aab.injEq] at b;subst b;refine c ?_ (by simp only[aq,valOf]);rw[binOp_string_add,run_string_add_sum w _ _ (by rw[zgZ,zgZ];exact E),ByteArray.mk_append_mk,valOf]
   .cases b
  all_goals
   subst b;refine c ?_ (by simp only[aq,valOf]);simp[binOp,Op.stringOp,valOf]
 .cases b
def zHm{b m:TypeId}{x y:Operand}{g h:X}{base:Nat}{neg:Bool}(i:o.op=.binOp (if neg then .neq else .eql) b x y m)(r:aI M.fm x g=true)(s:aI M.fm y h=true)
  (j:P.underlying b=some .bool) (k:bn M w e a n) (t:aG M w H) (c:aU base e H (.beq neg g h)=some (v,H1)):di P o a M H w v H1:=by
 have d:=fP r k;have f:=fP s k;simp only[aU] at c;split at c
 .rename_i p q u z;cases c;rw[u] at d;rw[z] at f;simp only[aq] at d f;refine .plain (rv:=.bool (if neg then !(p==q) else p==q)) t ?_ (by simp only[aq])
  have l:∀op w,(eqGuard op b x y (.bool p) (.bool q)).run P w=.ok () w:=by intro op w;unfold eqGuard;cases op<;>simp
  cases neg
  .simp only[execOp,i,d,f,Sem.run_bind,l,Result.andThen_ok,aaq,if_false,run_eql_bool w b p q j];rfl
  .simp only[execOp,i,d,f,Sem.run_bind,l,Result.andThen_ok,if_true,run_neq_bool w b p q j];rfl
 .cases c
def zMA{j:TypeId}{x:Operand}{i:X}{base:Nat}{op:UnOp}(f:o.op=.unOp op j x)(l:aI M.fm x i=true)
  (m:bn M w e a n) (g:aG M w H) (d:aU base e H (.un op i)=some (v,H1)):di P o a M H w v H1:=by
 have b:=fP l m;simp only[aU] at d;rw[aal] at d;obtain⟨q,c,d⟩:=d;cases d;unfold HA at c;split at c
 .rename_i k p h;rw[h] at b;simp only[aq] at b
  cases op<;>simp only[aab.injEq,reduceCtorEq] at c<;>subst c
  .refine .plain (rv:=.int k (AE k p)) g ?_ (by simp only[aq]);simp[execOp,f,b,Op.unary,Op.intArith,AE]
  .refine .plain (rv:=.int k (AF k p)) g ?_ (by simp only[aq]);simp[execOp,f,b,Op.unary,Op.intBits,AF]
 .rename_i p h;rw[h] at b;simp only[aq] at b
  cases op<;>simp only[aab.injEq,reduceCtorEq] at c<;>subst c
  refine .plain (rv:=.bool !p) g ?_ (by simp only[aq]);simp[execOp,f,b,Op.unary]
 .cases c
def zFJ{st dt:TypeId}{x:Operand}{d:X}{base:Nat}{k:IntKind}{f:TypeDesc}(g:o.op=.convert st dt x)(h:aI M.fm x d=true)(i:P.underlying st=some f)(hd:P.underlying dt=some (.int k))
  (j:bn M w e a n) (l:aG M w H) (b:aU base e H (.conv k d)=some (v,H1)):di P o a M H w v H1:=by
 have c:=fP h j;simp only[aU] at b;split at b
 .rename_i q p m;cases b;rw[m] at c;simp only[aq] at c;refine .plain (rv:=.int k (eP k p)) l ?_ (by simp only[aq]);simp[execOp,g,c,convert,run_underlying i,run_underlying hd,Conv.intToInt,eP]
 .cases b
def zFK{f b:Nat}{cap:Array Operand}{c:List X}(d:o.op=.makeFunc (.func f) #[] cap)(g:f=M.fm b)(h:qn M.fm cap.toList c=true)
  (i:bn M w e a n) (j:aG M w H):di P o a M H w (.fn b (c.map (X.ev e))) H:=by
 refine .plain (rv:=.func (.func (M.fm b)) #[] (cap.toList.map a.eval).toArray) j ?_ (by simp only[aq];exact⟨_,rfl,DI h i⟩)
 have:(cap.toList.map a.eval).toArray=cap.map a.eval:=by apply ace;simp
 rw[this];simp[execOp,d,Instr.makeFunc,g]
def zHn{x:Operand}{d:X}{base i:Nat}(f:o.op=.extract x i)(g:aI M.fm x d=true)(h:bn M w e a n)(j:aG M w H)
  (b:aU base e H (.ext i d)=some (v,H1)):di P o a M H w v H1:=by
 have c:=fP g h;simp only[aU] at b;split at b
 .rename_i s k;rw[aal] at b;obtain⟨t,l,b⟩:=b;cases b;rw[k] at c;simp only[aq] at c;obtain⟨xs,m,p⟩:=c;obtain⟨y,q,r⟩:=og p l;refine .plain (rv:=y) j ?_ r
  have:xs.toArray[i]?=some y:=by simpa using q
  simp[execOp,f,m,Instr.extract,this]
 .cases b
def zDd{x:Operand}{m:X}{base:Nat}(i:o.op=.nilCheck x)(p:aI M.fm x m=true)(q:bn M w e a n)(j:aG M w H)
  (g:aU base e H (.qW m)=some (v,H1)):di P o a M H w v H1:=by
 have c:=fP p q;simp only[aU] at g;split at g
 .rename_i id k h;cases g;rw[h] at c;have d:=c;simp only[aq] at d;refine .plain (rv:=a.eval x) j ?_ c;simp[execOp,i,d.2]
 .rename_i s h;cases g;rw[h] at c;have d:=c;simp only[aq] at d;obtain⟨_,b,k,l,_⟩:=d;refine .plain (rv:=a.eval x) j ?_ c;simp[execOp,i,l]
 .rename_i f r h;cases g;rw[h] at c;have d:=c;simp only[aq] at d;obtain⟨xs,l,_⟩:=d;refine .plain (rv:=a.eval x) j ?_ c;simp[execOp,i,l]
 .cases g
def zHo{t:TypeId}{x:Operand}{m:X}{base:Nat}{st:Bool}(g:o.op=.call { callee:=.builtin .len,args:=#[x],argTypes:=#[t] })(p:aI M.fm x m=true)
  (b:if st then P.underlying t=some .string else ∃h,elemOf? P t=some h) (q:bn M w e a n) (i:aG M w H)
  (d:aU base e H (.len st m)=some (v,H1)):di P o a M H w v H1:=by
 have c:=fP p q;simp only[aU] at d;split at d
 .rename_i r tk f;cases d;simp only[aaq,if_false] at b;obtain⟨h,b⟩:=b;rw[f] at c;simp only[aq] at c;obtain⟨_,z,j,l,_⟩:=c;refine .plain (rv:=.int .i64 r.length) i ?_ (by simp only[aq]);simp[execOp,g,resolve,invoke,builtin,l,Builtin.len_,run_underlying (elemOf?_some b),goInt]
 .rename_i id u k y f;cases d;simp only[aaq,if_false] at b;obtain⟨h,b⟩:=b;rw[f] at c;simp only[aq] at c;obtain⟨_,j,l,_⟩:=c;refine .plain (rv:=.int .i64 k) i ?_ (by simp only[aq]);simp[execOp,g,resolve,invoke,builtin,l,Builtin.len_,run_underlying (elemOf?_some b),goInt]
 .rename_i s f;cases d;simp only[if_true] at b;rw[f] at c;simp only[aq] at c;refine .plain (rv:=.int .i64 s.length) i ?_ (by simp only[aq]);simp[execOp,g,resolve,invoke,builtin,c,Builtin.len_,run_underlying b,goInt,zgZ]
 .cases d
def Kh(P:Program)(t:TypeId)(k:IntKind):Bool:=match P.underlying t with|some (.int a)=>k==a|_=>false
def Ki{t:TypeId}{k:IntKind}(h:Kh P t k=true):P.underlying t=some (.int k):=by
 unfold Kh at h;split at h
 .rename_i b a;simp only[beq_iff_eq] at h;rw[h];exact a
 .cases h
def Rl(P:Program)(t:TypeId):Bool:=match P.underlying t with|some .bool=>true|_=>false
def Rm{t:TypeId}(h:Rl P t=true):P.underlying t=some .bool:=by
 unfold Rl at h;split at h
 .assumption
 .cases h
def CD(P:Program)(t:TypeId):Bool:=match P.underlying t with|some .string=>true|_=>false
def CE{t:TypeId}(h:CD P t=true):P.underlying t=some .string:=by
 unfold CD at h;split at h
 .assumption
 .cases h
def w8{es:List (List V)}{sz:Nat}(h:∀e∈es,e.length=sz):es.flatten.length=es.length*sz:=by
 induction es with
 | nil=>simp
 | cons e es a=>simp only[aaw,aar,a (λd hd=>h d (by simp[hd])),h e ir,aaX,aaB,aaZ];omega
def Rn{b off:Nat}{es:List (List V)}(h:gE M w b es off):∃xs:List Value,ai M w es.flatten xs/\w.rangeAt b off xs:=znX (Kb.1 h)
def VN{b:Nat}{xs:List Value}:∀{es:List (List V)} {off:Nat},ai M w es.flatten xs->w.rangeAt b off xs->(∀i,i<xs.length->Rd M b (off+i))->gE M w b es off:=by intro es off d e f;rw[Kb];refine DF λi c g=>?_;obtain⟨x,a,h⟩:=og d g;exact⟨x,e i x a,f i (aad.1 a).1,h⟩
def zvf{cs:List V}{xs:List Value}(h:ai M w cs xs)(d:∀c∈cs,c.fB=true):∀u∈xs,u.oneCell'=true:=by
 intro u e;obtain⟨i,hi⟩:=abU e
 have a:i<cs.length:=by rw[<-ic h];exact(aad.1 hi).1
 obtain⟨g,b,f⟩:=og h (abD a);rw[hi] at b;cases b;exact VC f (d _ (abE a))
def zAH{c:V}{fs:List (List V)}{x:Value}{t:TypeId}{sz:Nat}(a:(∃E,P.underlying t=some (.slice E))\/P.underlying t=some .string)(h:aq M w c x)(e:c.elems?=some fs)(p:∀f∈fs,f.length=sz) :
  ∃k,Src P sz t x fs.length k w/\ai M w fs.flatten k:=by
 cases c<;>simp only[V.elems?,aab.injEq,reduceCtorEq] at e<;>subst e
 case vs fs tk =>
  simp only[aq] at h;obtain⟨F,q,g,rfl,G,m,_⟩:=h
  cases q with
  | none =>
   obtain⟨rfl,rfl⟩:=m
   exact⟨[],⟨a,λ_=>rfl,run_firstCells_none w sz 0 0 0,run_firstCells_none w.drew sz 0 0 0,ir,λ_ h=>by cases h⟩,by simp only[aaP,ai]⟩
  | some q =>
   obtain⟨b,d,sp⟩:=q;obtain⟨o,_,m⟩:=m
   by_cases y:fs=[]
   .subst y
    exact⟨[],⟨a,λ_=>rfl,run_firstCells_some w sz 0 ⟨b,d,sp⟩ 0 g [] ir (λj u a=>by simp at a),run_firstCells_some w.drew sz 0 ⟨b,d,sp⟩ 0 g [] ir (λj u a=>by simp at a),ir,ir⟩,
     by simp only[aaP,ai]⟩
   have o:=o.resolve_left y;simp only at o m;subst o;obtain⟨xs,n,H⟩:=Rn m
   have r:xs.length=fs.length*sz:=by rw[ic n,w8 p]
   have z:∀j u,xs[j]?=some u->w.cell? ((⟨b,d,none⟩:Addr).add j)=some u:=λj u a=>by rw[Addr.add_mid];exact H j u a
   refine⟨xs,⟨a,λ_=>rfl,run_firstCells_some w sz fs.length ⟨b,d,none⟩ fs.length g xs r z,run_firstCells_some w.drew sz fs.length ⟨b,d,none⟩ fs.length g xs r (by simpa using z),r,zvf n λc e=>?_⟩,n⟩;obtain⟨f,I,e⟩:=aa4.1 e;exact V.cr (F f I c e)
 case str s =>
  simp only[aq] at h;subst h
  have l:(qY s).length=s.length:=by simp[qY]
  have A:(ByteArray.mk s.toArray).size=s.length:=by simp[ByteArray.size]
  by_cases v:s=[]
  .subst v
   refine⟨[],⟨a,λ_=>rfl,?_,?_,by simp[qY],λ_ h=>by cases h⟩,by simp only[qY,aax,aaP,ai]⟩<;>simp[Builtin.firstCells,qY]<;>rfl
  .have n:sz=1:=by
    cases s with
    | nil=>exact absurd rfl v
    | cons b s=>have:=p [V.int .u8 b.toNat] (by simp[qY]);simpa using this.symm
   subst n;refine⟨byteCells ⟨s.toArray⟩,?_,?_⟩
   .rw[l,<-A];exact⟨a,λ_=>rfl,firstCells_string _ w,firstCells_string _ w.drew,by rw[byteCells_length,acm],λu a=>by obtain⟨_,_,rfl⟩:=aa1.1 a;rfl⟩
   .have J:(qY s).flatten=s.map λb=>V.int .u8 b.toNat:=by
     clear p l A v
     induction s with
     | nil=>rfl
     | cons b s B=>simp only[qY,aau,aaw] at B |-;rw[B];rfl
    rw[J];refine AD (by simp[byteCells]) λi c x e C=>?_;simp only[byteCells,aap,aal] at e C;obtain⟨b,K,rfl⟩:=e;obtain⟨L,D,rfl⟩:=C;rw[K] at D;cases D;simp only[aq]
def zzu{c:V}{fs:List (List V)}{x:Value}(h:aq M w c x)(a:c.elems?=some fs):∀f∈fs,∀d∈f,d.pure=true:=by
 cases c<;>simp only[V.elems?,aab.injEq,reduceCtorEq] at a<;>subst a
 case vs=>simp only[aq] at h;exact h.1
 case str =>
  intro f e d hd;obtain⟨b,_,rfl⟩:=aa1.1 e;simp at hd;subst hd;rfl
def VO(P:Program)(t a:TypeId)(sz bytes:Nat):Bool :=
 match elemOf? P t,(elemOf? P a).isSome||CD P a with
 | some b,true=>match P.info? b with
  | some i=>i.size==sz&&i.bytes==bytes&&decide (0<sz)&&decide (0<bytes)&&(match i.zero with|some z=>z.cells.size==sz|none=>false)
  | none=>false
 | _,_=>false
def zq3(z:Array Value)(k:Nat):(Builtin.zeroCells z k).size=k*z.size:=by simp[Builtin.zeroCells]
def znR(w:World)(t g ty h:TypeId)(i:TypeInfo)(l:P.underlying t=some (.slice h))(hi:P.info? h=some i)(b c f:Nat)(xs:Array Value)(te:TypeId)
  (m:w.heap[b]?=some (.cells xs te (0,0))) (x:Value) (k:Nat) (a:List Value) (e:Src P i.size g x k a w) (n:c+k<=f) (o:c*i.size+a.length<=xs.size) :
  (Builtin.append_ #[t,g] ty #[.slice (some ⟨b,0,none⟩) c f,x]).run P w =
   .ok (.slice (some ⟨b,0,none⟩) (c+k) f) (w.setRow b (xs.toList.take (c*i.size)++a++xs.toList.drop (c*i.size+a.length)).toArray):=by
 have d:=run_storeCells_at P b (c*i.size) te a 0 xs w m (by simpa using o) e.one;simp only[abo] at d
 rcases e.kind with⟨e',j⟩|j<;>simp[Builtin.append_,run_underlying l,run_underlying j,sizeOf,typeInfo,hi,e.len,n,e.cells,Addr.add_lit,d]
def zHp{t t':TypeId}{x y:Operand}{sx sy:X}{base s sz bytes:Nat}(ho:o.op=.call { callee:=.builtin .append,args:=#[x,y],argTypes:=#[t,t'] })
  (hx:aI M.fm x sx=true) (hy:aI M.fm y sy=true) (T:VO P t t' sz bytes=true) (ht:bn M w e a n) (O:aG M w H)
  (D:aU base e H (.app s sz bytes sx sy)=some (v,H1)):di P o a M H w v H1:=by
 have aR:=fP hx ht;have eV:=fP hy ht;unfold VO at T;split at T
 case h_2=>cases T
 rename_i E iK MN;have K:=elemOf?_some iK
 have yf:(∃E,P.underlying t'=some (.slice E))\/P.underlying t'=some .string:=by
  simp only[acf] at MN
  rcases MN with h|h
  .obtain⟨hw,h⟩:=aaL.1 h;exact .inl ⟨_,elemOf?_some h⟩
  .exact .inr (CE h)
 split at T
 case h_2=>cases T
 rename_i i hi;simp only[aag,beq_iff_eq,decide_eq_true_eq] at T;obtain⟨⟨⟨⟨Z,jN⟩,kU⟩,MO⟩,hz⟩:=T;split at hz
 case h_2=>cases hz
 rename_i z U;simp only[beq_iff_eq] at hz
 have V:∀r w',(Builtin.append_ #[t,t'] o.type #[a.eval x,a.eval y]).run P w=.ok r w'->(execOp a.eval o).run P w=.ok (.value r) w':=by intro r w' h;simp only[execOp,ho,resolve,invoke,builtin,Sem.run_bind,Sem.run_pure,Result.andThen_ok,List.map_toArray,aau,aax,h]
 simp only[aU] at D;split at D
 case h_2=>cases D
 rename_i f tk B hp Q;rw[hp] at aR;split at D
 .rename_i rZ;cases D;subst rZ;obtain⟨p,DJ,hn⟩:=zAH (sz:=sz) yf eV Q ir;simp only[aaP,ai] at hn;subst hn;have oj:=aR;simp only[aq] at oj;obtain⟨_,W,m,fy,hm,_⟩:=oj;have:=run_append_nothing (P:=P) w t t' o.type E i K hi W f.length m hm (a.eval y) (by rw[Z];exact DJ);rw[<-fy] at this;exact .plain O (V _ _ this) aR
 rename_i rZ;split at D
 case isFalse=>cases D
 rename_i hg;obtain⟨R,mj,ik⟩:=hg;obtain⟨p,DJ,AP⟩:=zAH (sz:=sz) yf eV Q mj
 have lh:p.length=B.length*sz:=by rw[ic AP,w8 mj]
 have xa:=zzu eV Q;have oj:=aR;simp only[aq] at oj;obtain⟨mb,W,m,fy,hm,cG,S⟩:=oj;have hA:0<B.length:=List.length_pos_iff.2 rZ
 have ou:∀e∈f++B,∀c∈e,c.pure=true:=by
  intro d hd c F;simp only[aba] at hd
  rcases hd with hd|hd
  .exact mb d hd c F
  .exact xa d hd c F
 have aV:∀e∈f++B,e.length=sz:=by
  intro d hd;simp only[aba] at hd
  rcases hd with hd|hd
  .exact ik d hd
  .exact mj d hd
 have he:∃A:List Value,ai M w f.flatten A/\(Builtin.firstCells i.size f.length (.slice W f.length m)).run P w.drew=.ok A.toArray w.drew:=by
  cases W with
  | none =>
   obtain⟨ym,_⟩:=cG;subst ym
   exact⟨[],by simp only[aaP,ai],by simp[Builtin.firstCells]⟩
  | some W =>
   obtain⟨b,hs,sp⟩:=W;obtain⟨eC,_,cG⟩:=cG
   by_cases AQ:f=[]
   .subst AQ;exact⟨[],by simp only[aaP,ai],run_firstCells_some w.drew i.size 0 ⟨b,hs,sp⟩ 0 m [] ir (λj u K=>by simp at K)⟩
   have eC:=eC.resolve_left AQ;simp only at eC cG;subst eC;obtain⟨xs,h1,h2⟩:=Rn cG;refine⟨xs,h1,?_⟩
   exact run_firstCells_some w.drew i.size f.length ⟨b,hs,none⟩ f.length m xs (by rw[ic h1,w8 ik,Z]) (λj u K=>by
    rw[Addr.add_mid]
    exact h2 j u K)
 obtain⟨A,FN,MP⟩:=he
 have FO:A.length=f.length*sz:=by rw[ic FN,w8 ik]
 have G:∀id,(lK H id=true\/∃k,H[id]?=some (some (.zone k)))->(M.al id=true->(M.z id).n<f.length+B.length)->m<f.length+B.length ->
   (execOp a.eval o).run P w=.ok (.value (.slice (some ⟨w.heap.size,0,none⟩) (f.length+B.length) (grownCap w (f.length+B.length) m E)))
    (w.drew.alloc (.cells ((A++p).toArray++Builtin.zeroCells z.cells (grownCap w (f.length+B.length) m E-(f.length+B.length))) E)) ->
   di P o a M H w (.vs (f++B) (.own id)) (H.set id (some (.zone (f.length+B.length)))):=by
  intro id bI ah _ Y;have yo:=grownCap_ge w (f.length+B.length) m E;generalize hC:grownCap w (f.length+B.length) m E=C at yo Y
  have FQ:(w.drew.alloc (.cells ((A++p).toArray++Builtin.zeroCells z.cells (C-(f.length+B.length))) E)).heap[w.heap.size]? =
    some (.cells ((A++p).toArray++Builtin.zeroCells z.cells (C-(f.length+B.length))) E (0,0)):=heap_alloc_new w.drew _
  have g:=(iQ.drew w).trans (iQ.alloc w.drew (.cells ((A++p).toArray++Builtin.zeroCells z.cells (C-(f.length+B.length))) E))
  obtain⟨st,ii,r⟩:=VF (w':=w.drew.alloc (.cells ((A++p).toArray++Builtin.zeroCells z.cells (C-(f.length+B.length))) E)) (z:=⟨f.length+B.length,some w.heap.size,C,sz⟩) O bI g.os g.tape g.output g.size
   (λb I _=>g.block b I)
   (λb l k I _ _=>g.cell (O.gh ⟨id,I⟩))
   (λb I=>by simp only[aab.injEq] at I;omega)
   (λb l I iR _=>by simp only[aab.injEq] at iR;have:=O.gh ⟨id,I⟩;omega)
   (λha=>⟨by have:=ah ha;simp only;omega,λh=>by have:=ah ha;simp only at h;omega⟩)
   (by
    refine⟨by simp only;omega,yo,kU,_,_,FQ,?_⟩;simp only[Array.size_append,abz,aar,zq3,hz,FO,lh,<-aaB]
    congr 1
    omega)
  refine⟨_,_,_,Y,?_,st,ii,r⟩;simp only[aq];refine⟨ou,some ⟨w.heap.size,0,none⟩,C,ir,by simpa using yo,⟨.inr rfl,⟨sz,aV⟩,?_⟩,?_⟩
  .have uW:=ai.step st O ii (ze FN AP);rw[<-aa5] at uW;refine VN uW ?_ ?_
   .intro j u K;have J:j<(A++p).length:=(aad.1 K).1;rw[cell_of_row _ w.heap.size (0+j) _ E (0,0) FQ];rw[abF,Array.getElem?_append];rw[if_pos (by simpa using J)];simpa using K
   .intro j J l N;simp only[Mm.mF,if_true,aab.injEq] at N;subst N;simp only[aar,FO,lh,<-aaB] at J;simp only[abF];exact J
  .simp only[mg,Mm.mF,decide_true,aaI,if_true,true_and,aar];exact⟨aaf _,λ_=>aV⟩
 have AR:m<f.length+B.length->Builtin.nextslicecap (f.length+B.length) m*i.bytes<=281474976710656 ->
   (execOp a.eval o).run P w=.ok (.value (.slice (some ⟨w.heap.size,0,none⟩) (f.length+B.length) (grownCap w (f.length+B.length) m E)))
    (w.drew.alloc (.cells ((A++p).toArray++Builtin.zeroCells z.cells (grownCap w (f.length+B.length) m E-(f.length+B.length))) E)):=by
  intro F w_;refine V _ _ ?_
  have:=run_append_grow_src (P:=P) w t t' o.type E i z K hi U W f.length m A MP (a.eval y) B.length p (by rw[Z];exact DJ) F (by
   have:=abJ (f.length+B.length) MO
   omega) w_
  rw[<-fy] at this;exact this
 have w_:m<f.length+B.length->Builtin.nextslicecap (f.length+B.length) m*i.bytes<=281474976710656:=λh=>growslice_fits h (by rw[jN];exact R)
 cases tk with
 | no=>cases D
 | full =>
  simp only at D;split at D
  case isFalse=>cases D
  rename_i hf;cases D;simp only[mg] at S
  have F:m<f.length+B.length:=an
  exact G _ (.inl hf) (λha=>by rw[Q_ O hf] at ha;cases ha) F (AR F (w_ F))
 | own q =>
  simp only at D;split at D
  case h_2=>cases D
  rename_i k Q;split at D
  case isFalse=>cases D
  rename_i L;cases D;subst L;simp only[mg] at S;obtain⟨eg,_,S⟩:=S;have I:=O.rel q _ Q;simp only[aJ] at I;obtain⟨HJ,I⟩:=I;obtain⟨kV,S⟩:=S HJ.symm
  cases dG:(M.z q).cH with
  | none =>
   simp only[dG] at I S
   have F:m<f.length+B.length:=an
   exact G q (.inr ⟨_,Q⟩) (λ_=>by omega) F (AR F (w_ F))
  | some b =>
   simp only[dG] at I S;obtain⟨vw,CF,Ae,AL,xs,te,hh,gZ⟩:=I;obtain⟨rfl,Ro⟩:=S
   by_cases vu:f.length+B.length<=m
   .have VP:(M.z q).sz=sz:=by
     cases Kj:f with
     | nil=>rw[Kj] at vw;simp at vw
     | cons e0 hB=>rw[<-Ro e0 (by simp[Kj]),ik e0 (by simp[Kj])]
    have AS:f.length*sz+B.length*sz<=(M.z q).cap*sz:=by rw[<-aaB];exact aaN _ an
    rw[VP] at gZ AL;have Y:=znR (P:=P) w t t' o.type E i K hi b f.length m xs te hh (a.eval y) B.length p (by rw[Z];exact DJ) vu (by rw[Z,lh,gZ];exact AS);rw[<-fy] at Y;rw[Z] at Y;have yp:=setRow_heap w b xs (xs.toList.take (f.length*sz)++p++xs.toList.drop (f.length*sz+p.length)).toArray te (0,0) hh;generalize hY:(xs.toList.take (f.length*sz)++p++xs.toList.drop (f.length*sz+p.length)).toArray=ys at Y yp
    have MQ:∀j,j<f.length*sz->ys[j]?=xs[j]?:=by intro j J;rw[<-hY];simp only[abT,aby];rw[aaD (by simp;omega),aav,if_pos J];simp
    have lL:aS M H q=some b:=by simp[aS,Q,dG]
    have jW:∀k,k≠b->(w.setRow b ys).heap[k]?=w.heap[k]?:=λk L=>setRow_other w b k ys (λe=>L e)
    have HK:∀j,j<f.length*sz->(w.setRow b ys).cell? ⟨b,j,none⟩=w.cell? ⟨b,j,none⟩:=by intro j J;rw[cell_of_row _ b j _ te (0,0) yp,cell_of_row _ b j _ te (0,0) hh,MQ j J]
    obtain⟨st,ii,r⟩:=VF (w':=w.setRow b ys) (z:=⟨f.length+B.length,some b,m,sz⟩) O (.inr ⟨_,Q⟩) rfl rfl rfl (by simp[World.setRow])
     (λk _ ay=>jW k (λe=>ay (by rw[lL,e])))
     (λk l j L N J=>by
      rw[lL] at L;cases L;rw[AL] at N;cases N
      exact HK j J)
     (λk L=>by simp only[aab.injEq] at L;subst L;exact .inr lL)
     (λk l L _ N=>by
      rw[lL] at L;cases L;rw[AL] at N;cases N
      exact aaN _ (by simp only;omega))
     (λ_=>⟨by simp only;omega,λh=>by simp only at h;omega⟩)
     ⟨by simp only;omega,vu,kU,ys,te,yp,by
      have VQ:xs.toList.length=m*sz:=by rw[aaA,gZ,kV]
      rw[<-kV] at AS;rw[<-hY];simp only[abz,aar,aae,aao,VQ,lh];rw[abp an]
      omega⟩
    refine⟨_,_,_,V _ _ Y,?_,st,ii,r⟩;simp only[aq];refine⟨ou,some ⟨b,0,none⟩,m,ir,by simpa using vu,⟨.inr rfl,⟨sz,aV⟩,?_⟩,?_⟩
    .rw[VB];refine⟨?_,?_⟩
     .have:=cG.2.2;exact gE.step st O ii this
     .rw[w8 ik];refine VN (ai.step st O ii AP) ?_ ?_
      .intro j u K;have J:j<p.length:=(aad.1 K).1;rw[cell_of_row _ b _ _ te (0,0) yp,<-hY];simp only[abT,abF]
       have ah:(xs.toList.take (f.length*sz)).length=f.length*sz:=by
        have VQ:xs.toList.length=(M.z q).cap*sz:=by rw[aaA,gZ]
        rw[aae,VQ];exact abp an
       rw[aby,aaT (by rw[ah];omega),ah,Nat.add_sub_cancel_left,aaD J];exact K
      .intro j J l N;simp only[Mm.mF,if_true,aab.injEq] at N;subst N;rw[lh] at J;simp only[aaB,abF];omega
    .simp only[mg,Mm.mF,decide_true,aaI,if_true,true_and,aar];exact⟨aaf _,λ_=>aV⟩
   .have F:m<f.length+B.length:=an
    exact G q (.inr ⟨_,Q⟩) (λ_=>by omega) F (AR F (w_ F))
variable {P:Program} {M M':Mm} {H H1:ae} {w w':World} {e:Env} {a:Act} {n:Nat} {o:Oper} {v:V}
def Mm.move(M:Mm)(id k:Nat):Mm :=
 { M with al:=λi=>decide (i=k)||M.al i,j:=λi=>if i=k then M.j id else M.j i,z:=λi=>if i=id then⟨1,none,1,0⟩ else if i=k then M.z id else M.z i }
def Mm.ml(M:Mm)(k:Nat)(z:Z):Mm:={ M with z:=λi=>if i=k then z else M.z i }
def zDe(c:aG M w H){k:Nat}(z:Z)(f:lK H k=true):eI M H w (M.ml k z) H w/\fe M (M.ml k z) H.length/\aG (M.ml k z) w H:=by
 have g:=Q_ c f
 have bo:∀i,aS (M.ml k z) H i=aS M H i:=by
  intro i
  by_cases h:i=k
  .subst h;unfold aS;rw[uV.1 f]
  .unfold aS;simp only[Mm.ml,h,if_false]
 have a:eI M H w (M.ml k z) H w :=
  { eI.refl M H w with
   n_:=λ_ _ h=>h
   jz:=λ_ l _ h=>⟨l,h,aaf _⟩
   limo:=λ_ _ _=>rfl
   own:=λb _ n=>by obtain⟨i,hi⟩:=n;rw[bo] at hi;exact⟨i,hi⟩
   fm:=rfl }
 have j:fe M (M.ml k z) H.length:=λi _ hi=>by
  have d:i≠k:=λe=>by subst e;rw[g] at hi;cases hi
  simp only[Mm.ml,if_neg d];exact⟨hi,trivial,vm.refl _⟩
 refine⟨a,j,⟨c.rX,λi b hi=>?_,λi o b d m=>?_,c.oW.step a c j⟩⟩
 .have d:i≠k:=λe=>by subst e;rw[uV.1 f] at hi;cases hi
  exact aJ.step a c j hi (λb _=>⟨rfl,rfl⟩) (by simp only[Mm.ml,d,if_false])
 .rw[bo] at d m;exact c.inj i o b d m
def Mm.kill(M:Mm)(id:Nat):Mm:={ M with z:=λi=>if i=id then⟨1,none,1,0⟩ else M.z i }
def zAI{fs:List (List V)}(h:∀f∈fs,∀d∈f,d.pure=true):∀c∈fs.flatten,c.fB=true:=λc a=>by
 obtain⟨f,b,a⟩:=aa4.1 a;exact V.cr (h f b c a)
def intOf?_some{c:V}{k:Int}(h:intOf? c=some k):∃kd,c=.int kd k:=by cases c<;>simp_all [intOf?]
def Rp{b:Option Operand}{xx:Option X}(h:oi M.fm b xx=true)(c:bn M w e a n):∀x,xx=some x->∀k,intOf? (x.ev e)=some k->∃u kd,b=some u/\a.eval u=.int kd k:=by
 intro x d k f;subst d;unfold oi at h;split at h
 .cases ‹some x=none›
 .rename_i u y g;cases g;obtain⟨kd,i⟩:=intOf?_some f;have:=fP h c;rw[i] at this;simp only[aq] at this;exact⟨u,kd,rfl,this⟩
 .cases h
def VR{a:Option Operand}{xx:Option X}(h:oi M.fm a xx=true)(b:xx=none):a=none:=by
 subst b;unfold oi at h
 split at h<;>simp_all
def Rq{isS:Bool}{len cap l h:Nat}{m:Bool}{lo hi mx:Option Operand}{f q smx:Option X}(z:oi M.fm lo f=true)(H:oi M.fm hi q=true)(K:oi M.fm mx smx=true)
  (I:bn M w e a n) (i:s_ e len f q smx=some (l,h,m)) (Y:len<=cap) :
  l<=h/\h<=len/\(m=false->(smx=none/\(q=none->h=len))) /\
  (Instr.sliceBounds isS len cap (lo.map a.eval) (hi.map a.eval) (mx.map a.eval)).run P w=.ok (l,h,if m then h else cap) w:=by
 unfold s_ at i;simp only at i;split at i
 case h_2=>cases i
 rename_i L r Z j s d;split at i
 case isFalse=>cases i
 rename_i hc;obtain⟨h1,h2,h3,h4,h5⟩:=hc;simp only[aab.injEq,ab4.injEq] at i;obtain⟨rfl,rfl,rfl⟩:=i
 have N:∀(y:Nat) (b:BoundsCode),r.toNat<=y->∀u,lo=some u->(Instr.sliceBound (a.eval u) y b).run P w=.ok L.toNat w:=by
  intro y b hy u t
  cases c:f with
  | none=>have:=VR z c;rw[this] at t;cases t
  | some x =>
   simp only[c] at j;obtain⟨T,kd,o,A⟩:=Rp z I x c L j;rw[t] at o;cases o;rw[A];exact run_sliceBound (P:=P) w kd L y b h1 an
 have U:∀(y:Nat) (b:BoundsCode),r.toNat<=y->∀u,hi=some u->(Instr.sliceBound (a.eval u) y b).run P w=.ok r.toNat w:=by
  intro y b hy u t
  cases c:q with
  | none=>have:=VR H c;rw[this] at t;cases t
  | some x =>
   simp only[c] at s;obtain⟨T,kd,o,A⟩:=Rp H I x c r s;rw[t] at o;cases o;rw[A];exact run_sliceBound (P:=P) w kd r y b an an
 refine⟨an,an,?_,?_⟩
 .intro CG
  cases Z with
  | some v=>simp at CG
  | none =>
   cases c:smx with
   | none=>exact⟨rfl,λO=>by simp only[O,aab.injEq] at s;omega⟩
   | some x =>
    simp only[c,aal] at d;obtain⟨_,_,d⟩:=d;cases d
 .cases J:mx with
  | some um =>
   cases c:smx with
   | none=>have:=VR K c;rw[this] at J;cases J
   | some x =>
    simp only[c,aal] at d;obtain⟨k,A,d⟩:=d;subst d;obtain⟨T,kd,o,B⟩:=Rp K I x c k A;rw[J] at o;cases o;have C:k=r:=h4 k rfl;subst C;have Q:q.isSome=true:=h5 (by simp[c]);obtain⟨xh,D⟩:=aaL.1 Q;simp only[D] at s;obtain⟨R,kh,S,C⟩:=Rp H I xh D k s;have V:=λb=>run_sliceBound (P:=P) w kd k cap b an an;have E:=U k.toNat .slice3B (aaf _) R S
    cases p:lo with
    | none =>
     have:f=none:=by
      cases g:f with
      | none=>rfl
      | some x=>simp[p,g,oi] at z
     simp only[this,aab.injEq] at j;subst j
     simp[Instr.sliceBounds,S,B,V,E]
    | some F =>
     have G:=N k.toNat .slice3C (aaf _) F p
     simp[Instr.sliceBounds,S,B,V,E,G]
  | none =>
   have AT:smx=none:=by
    cases g:smx with
    | none=>rfl
    | some x=>simp[J,g,oi] at K
   simp only[AT,aab.injEq] at d;subst d
   cases W:hi with
   | none =>
    have Q:q=none:=by
     cases g:q with
     | none=>rfl
     | some x=>simp[W,g,oi] at H
    simp only[Q,aab.injEq] at s;subst s
    cases p:lo with
    | none =>
     have:f=none:=by
      cases g:f with
      | none=>rfl
      | some x=>simp[p,g,oi] at z
     simp only[this,aab.injEq] at j;subst j
     simp[Instr.sliceBounds]
    | some F =>
     have G:=N len .sliceB an F p
     simp[Instr.sliceBounds,G]
   | some R =>
    have E:=λb=>U cap b an R W
    cases p:lo with
    | none =>
     have:f=none:=by
      cases g:f with
      | none=>rfl
      | some x=>simp[p,g,oi] at z
     simp only[this,aab.injEq] at j;subst j
     simp[Instr.sliceBounds,E]
    | some F =>
     have G:=N r.toNat .sliceB (aaf _) F p;simp[Instr.sliceBounds,E,G]
def zxp{b off l k sz:Nat}{es:List (List V)}(h:gE M w b es off)(d:∀e∈es,e.length=sz)(f:l<=es.length):gE M w b ((es.drop l).take k) (off+l*sz):=by
 have c:gE M w b (es.drop l) (off+l*sz):=by
  have a:=h;rw[<-aa2 l es,VB] at a
  have:(es.take l).flatten.length=l*sz:=by rw[w8 (sz:=sz) (λe g=>d e (aai g)),aae,abp f]
  rw[this] at a;exact a.2
 rw[<-aa2 k (es.drop l),VB] at c;exact c.1
def zHq{t J:TypeId}{x:Operand}{K:X}{lo hi mx:Option Operand}{L N smx:Option X}{base sz:Nat}{i:TypeInfo}(Y:o.op=.slice t x lo hi mx)(Z:aI M.fm x K=true)
  (oq:elemOf? P t=some J) (qL:P.info? J=some i) (dC:i.size=sz) (O:oi M.fm lo L=true) (Q:oi M.fm hi N=true) (R:oi M.fm mx smx=true)
  (B:bn M w e a n) (S:aG M w H) (f:aU base e H (.slc sz K L N smx)=some (v,H1)):di P o a M H w v H1:=by
 have u:=fP Z B;have hu:=elemOf?_some oq
 have T:∀(g:Option Addr) (r c l h mm:Nat),a.eval x=.slice g r c->(Instr.sliceBounds true r c (lo.map a.eval) (hi.map a.eval) (mx.map a.eval)).run P w=.ok (l,h,mm) w ->
   (execOp a.eval o).run P w=.ok (.value (.slice (if mm=l then g else g.map (·.add (l*sz))) (h-l) (mm-l))) w:=by
  intro g r c l h mm h1 h2;simp[execOp,Y,h1,Instr.sliceAt,Instr.slice,run_underlying hu,h2,sizeOf,typeInfo,qL,dC]
 simp only[aU] at f;split at f
 .rename_i y tk C;split at f
  case h_2=>cases f
  rename_i l h m D;split at f
  case isFalse=>cases f
  rename_i U;cases f;rw[C] at u;simp only[aq] at u;obtain⟨mb,g,c,E,s,z,eQ⟩:=u;obtain⟨F,V,hm,G⟩:=Rq (P:=P) (w:=w) (isS:=true) O Q R B D s;refine .plain S (T g y.length c l h _ E G) ?_
  have p:((y.drop l).take (h-l)).length=h-l:=by rw[aae,aao];omega
  have CH:h<=(if m=true then h else c):=by split<;>omega
  simp only[aq]
  refine⟨λd hd=>mb d (aan (aai hd)),(if(if m=true then h else c)=l then g else g.map (·.add (l*sz))),(if m=true then h else c)-l,by rw[p],by rw[p];omega,?_,?_⟩
  .by_cases q:(if m=true then h else c)=l
   .rw[if_pos q]
    have h0:(y.drop l).take (h-l)=[]:=by rw[show h-l=0 by omega];simp
    rw[h0]
    cases g with
    | none=>exact⟨rfl,an⟩
    | some g=>exact⟨.inl rfl,⟨0,ir⟩,by simp only[gE]⟩
   .rw[if_neg q]
    cases g with
    | none =>
     exfalso;obtain⟨ym,Rr⟩:=z;subst ym;simp only[abe] at V;apply q
     split<;>omega
    | some g =>
     obtain⟨b,I,sp⟩:=g;obtain⟨A,_,z⟩:=z
     by_cases W:y=[]
     .subst W;exact⟨.inl ir,⟨0,ir⟩,by simp[gE]⟩
     have A:=A.resolve_left W;simp only at A z;subst A;simp only[aaY,Addr.add_lit];exact⟨.inr trivial,⟨sz,λd hd=>U d (aan (aai hd))⟩,zxp z U an⟩
  .by_cases j:m=true\/tk=.full/\h=y.length
   .rw[if_pos j];simp only[mg,p]
    rcases j with j|⟨j,he⟩
    .rw[if_pos j]
    .subst j;simp only[mg] at eQ
     split<;>omega
   .rw[if_neg j];trivial
 .rename_i id I k hf C;split at f
  case h_2=>cases f
  rename_i l h m D;split at f
  case isFalse=>cases f
  rename_i j;cases f;rw[C] at u;simp only[aq] at u;obtain⟨ha,c,E,s⟩:=u;obtain⟨F,V,hm,G⟩:=Rq (P:=P) (w:=w) (isS:=true) O Q R B D s;refine .plain S (T _ k c l h _ E G) ?_
  have CH:h<=(if m=true then h else c):=by split<;>omega
  simp only[aq];refine⟨ha,(if m=true then h else c)-l,?_,an⟩
  congr 1
  by_cases q:(if m=true then h else c)=l
  .rw[if_pos q]
   have:l=0:=by
    rcases j with j|⟨j,CG⟩
    .exact j
    .rw[CG] at q;simp at q;omega
   subst this;simp
  .rw[if_neg q];simp[Addr.add_lit]
 .cases f
def zAJ(vs:List Value)(off:Nat):∀(k:Nat) (cs:Array Value),off+k+vs.length<=cs.size ->
  ((vs.zipIdx k).foldl (λcs (c:Value×Nat)=>cs.setIfInBounds (off+c.2) c.1) cs).toList=cs.toList.take (off+k)++vs++cs.toList.drop (off+k+vs.length):=by
 induction vs with
 | nil=>intro k cs _;simp
 | cons v vs a =>
  intro k cs h;simp only[List.zipIdx_cons,List.foldl_cons,aaX] at h |-;rw[a (k+1) _ (by simp;omega)];simp only[Array.toList_setIfInBounds]
  have b:off+k<cs.toList.length:=by simp;omega
  have d:(cs.toList.set (off+k) v).take (off+(k+1))=cs.toList.take (off+k)++[v]:=by rw[show off+(k+1)=off+k+1 by omega,List.take_succ_eq_append_getElem (by simpa using b),List.take_set_of_le (aaf _)];simp
  have e:(cs.toList.set (off+k) v).drop (off+(k+1)+vs.length)=cs.toList.drop (off+k+(vs.length+1)):=by
   rw[List.drop_set_of_lt an]
   congr 1
   omega
  rw[d,e];simp
def uf(fm:Fm)(a:Nat->Option (Nat×Nat)):List (Nat×Operand)->List (Nat×Nat×X)->Bool
 | [],[]=>true
 | (i,x)::c,(b,d,e)::qs=>(match a i with|some (f,g)=>f==b&&g==d|none=>false)&&aI fm x e&&uf fm a c qs
 | _,_=>false
def VU{d:Nat->Option (Nat×Nat)}(o:bn M w e a n):∀{ps:List (Nat×Operand)} {qs:List (Nat×Nat×X)} {cs ds:List V} {xs:Array Value},
  uf M.fm d ps qs=true->oh e cs qs=some ds->ai M w cs xs.toList->(∀c∈cs,c.fB=true) ->
  ∃ys,Instr.fill d xs (ps.map λp=>(p.1,a.eval p.2))=some ys/\ai M w ds ys.toList/\∀c∈ds,c.fB=true
 | [],[],cs,ds,xs,_,f,h,k=>by
  simp only[oh,aab.injEq] at f;subst f
  exact⟨xs,rfl,h,k⟩
 | [],_::_,_,_,_,b,_,_,_=>by simp[uf] at b
 | _::_,[],_,_,_,b,_,_,_=>by simp[uf] at b
 | (i,x)::ps,(z,H,I)::qs,cs,ds,xs,b,f,h,k=>by
  simp only[uf,aag] at b;obtain⟨⟨l,A⟩,b⟩:=b;split at l
  case h_2=>cases l
  rename_i g q B;simp only[aag,beq_iff_eq] at l;obtain⟨rfl,rfl⟩:=l;simp only[oh] at f;split at f
  case h_2=>cases f
  rename_i r C;split at f
  case isFalse=>cases f
  rename_i j;obtain⟨s,D⟩:=VI (fP A o) C;have E:=ic s;have t:=ic h
  have u:(a.eval x).cells.size=q:=by rw[<-aaA,E,j.1]
  have v:=zAJ (a.eval x).cells.toList g 0 xs (by simp at t |-;omega);simp only[abo,aaA,u] at v
  have y:ai M w (cs.take g++r++cs.drop (g+r.length)) (xs.toList.take g++(a.eval x).cells.toList++xs.toList.drop (g+q)):=by rw[j.1];exact ze (ze (wE h _) s) (yj h _)
  rw[<-v] at y
  obtain⟨ys,F,G,m⟩:=VU o b f y (λc b=>by
   simp only[aba] at b
   rcases b with(b|b)|b
   .exact k c (aai b)
   .exact D c b
   .exact k c (aan b))
  refine⟨ys,?_,G,m⟩;simp only[aau,Instr.fill,B];rw[if_neg]
  .have J:(a.eval x).cells.zipIdx.foldl (λcs (c:Value×Nat)=>cs.setIfInBounds (g+c.2) c.1) xs=((a.eval x).cells.toList.zipIdx 0).foldl (λcs (c:Value×Nat)=>cs.setIfInBounds (g+c.2) c.1) xs:=by rw[<-Array.foldl_toList,Array.toList_zipIdx]
   rw[<-F]
   congr 1
  .simp only[acf,decide_eq_true_eq,not_or];simp at t;exact⟨by simp[u],an⟩
def Km(P:Program)(t:TypeId)(i:Nat):Option (Nat×Nat) :=
 match P.underlying t with
 | some (.struct b)=>match b[i]? with
  | some f=>match P.info? f.type with
   | some a=>some (f.offset,a.size)
   | none=>none
  | none=>none
 | some (.array _ c)=>match P.info? c with
  | some a=>some (i*a.size,a.size)
  | none=>none
 | _=>none
def VV(P:Program)(t:TypeId):Bool :=
 match P.underlying t with
 | some (.struct a)=>a.all λf=>(P.info? f.type).isSome
 | some (.array _ b)=>(P.info? b).isSome
 | _=>false
def MU(f:Field):Sem (Nat×Nat):=do pure (f.offset,<-sizeOf f.type)
def zzx{f:Field}{a:TypeInfo}(h:P.info? f.type=some a):(MU f).run P w=.ok (f.offset,a.size) w:=by simp[MU,sizeOf,typeInfo,h]
def zlh:∀fs:List Field,(∀f∈fs,(P.info? f.type).isSome=true)->(fs.mapM MU).run P w =
  .ok (fs.map λf=>(f.offset,((P.info? f.type).map (·.size)).getD 0)) w
 | [],_=>by simp
 | f::fs,h=>by
  obtain⟨b,a⟩:=aaL.1 (h f ir);rw[List.mapM_cons,Sem.run_bind,zzx a,Result.andThen_ok,Sem.run_bind,zlh fs (λg c=>h g (by simp[c])),Result.andThen_ok];simp[a]
def zqc{fs:Array Field}(h:fs.all (λf=>(P.info? f.type).isSome)=true):(fs.mapM MU).run P w =
  .ok (fs.toList.map λf=>(f.offset,((P.info? f.type).map (·.size)).getD 0)).toArray w:=by
 rw[Array.mapM_eq_mapM_toList,Sem.run_map,zlh fs.toList (λf a=>(abm.1 h) f (by simpa using a))];rfl
def zDf{t:TypeId}{ps:Array (Nat×Operand)}{z:List V}{qs:List (Nat×Nat×X)}{base:Nat}{i:TypeInfo}{j:Value}(x:o.op=.build t ps)
  (hi:P.info? t=some i) (y:i.zero=some j) (A:sE j.cells.toList z=true) (d:VV P t=true) (D:uf M.fm (Km P t) ps.toList qs=true)
  (E:bn M w e a n) (F:aG M w H) (l:aU base e H (.build z qs)=some (v,H1)):di P o a M H w v H1:=by
 simp only[aU] at l;split at l
 case h_2=>cases l
 rename_i O G;cases l;obtain⟨g,B,I,J⟩:=VU (w:=w) E D G (FM A) (λc K=>V.cr (HF A c K));refine .plain (rv:=.agg g) F ?_ (by simp only[aq];exact⟨J,g.toList,ir,I⟩)
 have C:(ps.map λp=>(p.1,a.eval p.2)).toList=ps.toList.map λp=>(p.1,a.eval p.2):=by simp
 unfold VV at d;split at d
 .rename_i m h
  have r:(λk=>((m.toList.map λf=>(f.offset,((P.info? f.type).map (·.size)).getD 0))[k]?))=Km P t:=by
   funext k
   simp only[Km,h,aap];rw[aah]
   cases L:m[k]? with
   | none=>rfl
   | some f =>
    have N:=Array.mem_of_getElem? L;have:=(abm.1 d) f N;obtain⟨b,q⟩:=aaL.1 this;simp[q]
  have CH:=zqc (P:=P) (w:=w) d
  have s:Instr.fill (λk=>(m.toList.map λf=>(f.offset,((P.info? f.type).map (·.size)).getD 0)).toArray[k]?) j.cells (ps.map λp=>(p.1,a.eval p.2)).toList=some g:=by
   rw[C,<-B,<-r]
   congr 1
   funext k
   simp
  have u:(Instr.build t (ps.map λp=>(p.1,a.eval p.2))).run P w=.ok (.agg g) w:=by unfold Instr.build;simp only[Sem.run_bind,zeroValue,typeInfo,run_program,hi,y,Sem.run_pure,Result.andThen_ok,run_underlying h];change ((m.mapM MU).run P w).andThen _=_;rw[CH,Result.andThen_ok];simp only[s,Sem.run_pure]
  simp only[execOp,x,Sem.run_bind,Sem.run_pure];change (Result.andThen ((Instr.build t (ps.map λp=>(p.1,a.eval p.2))).run P w) _)=_;rw[u];rfl
 .rename_i k Q h;obtain⟨b,q⟩:=aaL.1 d
  have r:(λk=>some (k*b.size,b.size))=Km P t:=by
   funext k
   simp[Km,h,q]
  have s:Instr.fill (λk=>some (k*b.size,b.size)) j.cells (ps.map λp=>(p.1,a.eval p.2)).toList=some g:=by rw[C,r];exact B
  have u:(Instr.build t (ps.map λp=>(p.1,a.eval p.2))).run P w=.ok (.agg g) w:=by unfold Instr.build;simp only[Sem.run_bind,zeroValue,typeInfo,run_program,hi,y,Sem.run_pure,Result.andThen_ok,run_underlying h,sizeOf,q,s]
  simp only[execOp,x,Sem.run_bind,Sem.run_pure];change (Result.andThen ((Instr.build t (ps.map λp=>(p.1,a.eval p.2))).run P w) _)=_;rw[u];rfl
 .cases d
def zFL{t k:TypeId}{x:Operand}{p:X}{lo hi:Option Operand}{q r:Option X}{base sz len:Nat}{i:TypeInfo}(u:o.op=.slice t x lo hi none)(y:aI M.fm x p=true)
  (z:arrOf? P t=some (len,k)) (A:P.info? k=some i) (B:i.size=sz) (C:oi M.fm lo q=true) (D:oi M.fm hi r=true)
  (s:bn M w e a n) (E:aG M w H) (c:aU base e H (.wZ len sz p q r)=some (v,H1)):di P o a M H w v H1:=by
 have d:=fP y s;have F:=arrOf?_some z;simp only[aU] at c;split at c
 case h_2=>cases c
 rename_i l h m b;split at c
 case h_2=>cases c
 rename_i id f G;split at c
 case isFalse=>cases c
 rename_i L;cases c;rw[G] at d;simp only[aq] at d;obtain⟨I,N,O,g⟩:=Rq (P:=P) (w:=w) (isS:=false) (mx:=none) C D rfl s b (aaf len)
 have J:m=false:=by
  unfold s_ at b;simp only at b;split at b
  case h_2=>cases b
  split at b
  case isFalse=>cases b
  rename_i CH _;simp only[aab.injEq,ab4.injEq] at b;simp only[aab.injEq] at CH;rw[<-b.2.2,<-CH];rfl
 subst J;simp only[aaq,if_false] at g
 have K:¬len=l:=an
 refine .plain (rv:=.slice (some ⟨M.j id,f+l*sz,none⟩) (h-l) (len-l)) E ?_ (by simp only[aq];exact⟨d.1,len-l,rfl,an⟩);simp only[abK] at g;simp[execOp,u,d.2,Instr.sliceAt,Instr.sureAddr,run_underlying F,g,sizeOf,typeInfo,A,B,K,Addr.add_lit]
def VW{α:Type}(z:List α):∀(k i:Nat),i<k*z.length->(aaj k z).flatten[i]?=z[i%z.length]?
 | 0,i,h=>by simp at h
 | k+1,i,h=>by
  rw[abt,aaw]
  by_cases hi:i<z.length
  .rw[aaD hi,Nat.mod_eq_of_lt hi]
  .rw[aaT an,VW z k (i-z.length) (by rw[aaB,aaZ] at h;omega),Nat.mod_eq_sub_mod (by omega:i≥z.length)]
def zq4{sz:Nat}:∀{qs:List (Nat×X)} {es fs:List (List V)},(∀e∈es,e.length=sz)->(∀f∈es,∀c∈f,c.pure=true)->AG e sz es qs=some fs ->
  oh e es.flatten (qs.map λq=>(q.1*sz,sz,q.2))=some fs.flatten/\fs.length=es.length/\(∀e∈fs,e.length=sz)/\(∀f∈fs,∀c∈f,c.pure=true)
 | [],es,fs,b,g,h=>by
  simp only[AG,aab.injEq] at h;subst h
  exact⟨rfl,rfl,b,g⟩
 | (i,x)::qs,es,fs,b,g,h=>by
  simp only[AG] at h;split at h
  case h_2=>cases h
  rename_i ds j;split at h
  case isFalse=>cases h
  rename_i k;obtain⟨hi,d,l⟩:=k
  have m:∀e∈es.set i ds,e.length=sz:=by
   intro f a
   rcases abB a with a|rfl
   .exact b f a
   .exact d
  have n:∀f∈es.set i ds,∀c∈f,c.pure=true:=by
   intro f a
   rcases abB a with a|rfl
   .exact g f a
   .exact abG.1 l
  obtain⟨o,p,r,s⟩:=zq4 m n h;refine⟨?_,by rw[p];simp,r,s⟩;simp only[aau,oh,j];have t:=w8 b
  have u:i*sz+sz<=es.length*sz:=by have:(i+1)*sz<=es.length*sz:=aaN _ hi;rw[aaB,aaZ] at this;exact this
  rw[if_pos ⟨d,by rw[t,d];exact u⟩]
  have v:(es.set i ds).flatten=es.flatten.take (i*sz)++ds++es.flatten.drop (i*sz+ds.length):=by
   have w:es=es.take i++es[i]::es.drop (i+1):=by rw[List.getElem_cons_drop,aa2]
   have y:(es.take i).flatten.length=i*sz:=by rw[w8 (sz:=sz) (λf a=>b f (aai a)),aae,abp an]
   have z:es[i].length=sz:=b _ (abE hi)
   have A:es.set i ds=es.take i++ds::es.drop (i+1):=List.set_eq_take_append_cons_drop▸by rw[if_pos hi]
   rw[A]
   have B:es.flatten=(es.take i).flatten++(es[i]++(es.drop (i+1)).flatten):=by have:=congrArg List.flatten w;rw[aa5,aaw] at this;exact this
   rw[B];simp only[aa5,aaw];rw[<-y,List.take_left,d,<-z,List.drop_append,];simp
  rw[<-v];exact o
def zFM{z:List V}{a:Array Value}(h:sE a.toList z=true)(n:0<z.length)(k:Nat) :
  ai M w (aaj k z).flatten ((abw (k*z.length)).map (λj=>a[j%a.size]!)).toList:=by
 have i:a.size=z.length:=by have:=ic (FM (M:=M) (w:=w) h);simpa using this
 refine AD ?_ λj c x d b=>?_
 .rw[w8 (sz:=z.length) (λf e=>by rw[aas e])];simp
 .have l:j<k*z.length:=by have:=(aad.1 d).1;rw[w8 (sz:=z.length) (λf e=>by rw[aas e]),abn] at this;exact this
  rw[VW z k j l] at d;obtain⟨o,g,p⟩:=og (FM (M:=M) (w:=w) h) d
  have m:j%z.length<a.size:=by rw[i];exact acn _ n
  have:x=o:=by simp only[ab9,ab0,aap] at b;rw[abV l] at b;simp only[aaY,aab.injEq] at b;rw[<-b,i];rw[getElem!_pos a _ m];simp only[aah] at g;rw[aaG m] at g;simpa using g
  rw[this];exact p
def zFN{t h:TypeId}{l c:Operand}{m:X}{s base bytes:Nat}{z:List V}{i:TypeInfo}{b:Value}(D:o.op=.makeSlice t l c)(E:aI M.fm l m=true)(d:aI M.fm c m=true)
  (F:elemOf? P t=some h) (hi:P.info? h=some i) (G:i.size=z.length) (I:i.bytes=bytes) (J:0<bytes) (K:0<z.length) (L:i.zero=some b) (y:sE b.cells.toList z=true)
  (A:bn M w e a n) (N:aG M w H) (g:aU base e H (.qm s bytes z m)=some (v,H1)):di P o a M H w v H1:=by
 have O:=elemOf?_some F;have p:=fP E A;have q:=fP d A;simp only[aU] at g;split at g
 case h_2=>cases g
 rename_i kd k Q;split at g
 case isFalse=>cases g
 rename_i MV;obtain⟨u,B,x⟩:=MV;cases g;rw[Q] at p q;simp only[aq] at p q;have U:k.toNat<=140737488355328:=abi (abJ _ J) x
 have R:(i.bytes:Int)*k<=281474976710656:=by
  rw[I]
  have W:((k.toNat*bytes:Nat):Int)=(bytes:Int)*k:=by rw[Int.natCast_mul,Int.toNat_of_nonneg B,Int.mul_comm]
  omega
 have C:=run_make (P:=P) w t h i b O hi L kd kd k k B (Int.le_refl _) R an
 have S:madeCells b.cells (k.toNat*i.size)=(abw (k.toNat*z.length)).map (λj=>b.cells[j%b.cells.size]!):=by rw[G];rfl
 rw[S] at C
 obtain⟨st,T,r⟩:=Ra (t:=h) N u (zFM y K k.toNat) (λc d=>by
  obtain⟨f,u,d⟩:=aa4.1 d;rw[aas u] at d
  exact V.cr (HF y c d))
 refine⟨.value (.slice (some ⟨w.heap.size,0,none⟩) k.toNat k.toNat),_,_,?_,?_,st,T,r⟩
 .simp only[execOp,D,p,q,Sem.run_bind,Sem.run_pure,C,Result.andThen_ok]
 .simp only[aq,Mm.i_,decide_true,aaI,if_true,true_and];exact⟨k.toNat,rfl,aaf _⟩
def ztp{t el:TypeId}{k:Nat}{ps:Array (Nat×Operand)}{z:List V}{qs:List (Nat×X)}{i:TypeInfo}{zv:Value}(ho:o.op=.buildSlice t k ps)
  (oq:elemOf? P t=some el) (hi:P.info? el=some i) (dC:i.size=z.length) (vB:0<z.length) (hk:k*z.length<=16777216) (hz:i.zero=some zv) (nK:sE zv.cells.toList z=true)
  (hp:uf M.fm (λj=>some (j*z.length,z.length)) ps.toList (qs.map λq=>(q.1*z.length,z.length,q.2))=true)
  (ht:bn M w e a n) {cs:List V} (h1:oh e (aaj k z).flatten (qs.map λq=>(q.1*z.length,z.length,q.2))=some cs) :
  ∃ys:Array Value,(execOp a.eval o).run P w=.ok (.value (.slice (some ⟨w.heap.size,0,none⟩) k k)) (w.alloc (.cells ys el))/\ai M w cs ys.toList/\∀c∈cs,c.fB=true:=by
 have hu:=elemOf?_some oq;have VX:=HF nK
 have th:zv.cells.size=z.length:=by have:=ic (FM (M:=M) (w:=w) nK);simpa using this
 have MW:ai M w (aaj k z).flatten ((abw (k*i.size)).map (λj=>zv.cells[j%zv.cells.size]!)).toList:=by
  refine AD ?_ λj c x hc hx=>?_
  .rw[w8 (sz:=z.length) (λf hf=>by rw[aas hf])];simp[dC]
  .have hj:j<k*z.length:=by have:=(aad.1 hc).1;rw[w8 (sz:=z.length) (λf hf=>by rw[aas hf]),abn] at this;exact this
   rw[VW z k j hj] at hc;obtain⟨x',aR,he⟩:=og (FM (M:=M) (w:=w) nK) hc
   have hm:j%z.length<zv.cells.size:=by rw[th];exact acn _ vB
   have:x=x':=by simp only[ab9,ab0,aap,dC] at hx;rw[abV hj] at hx;simp only[aaY,aab.injEq] at hx;rw[<-hx,th];rw[getElem!_pos zv.cells _ hm];simp only[aah] at aR;rw[aaG hm] at aR;simpa using aR
   rw[this];exact he
 obtain⟨ys,hf,hy,yu⟩:=VU (w:=w) ht hp h1 MW (λc hc=>by
  obtain⟨f,hf,hc⟩:=aa4.1 hc;rw[aas hf] at hc
  exact V.cr (VX c hc))
 have bN:(execOp a.eval o).run P w=.ok (.value (.slice (some ⟨w.heap.size,0,none⟩) k k)) (w.alloc (.cells ys el)):=by
  have qq:(ps.map λp=>(p.1,a.eval p.2)).toList=ps.toList.map λp=>(p.1,a.eval p.2):=by simp
  have hb:(Instr.buildSlice t k (ps.map λp=>(p.1,a.eval p.2))).run P w=.ok (.slice (some ⟨w.heap.size,0,none⟩) k k) (w.alloc (.cells ys el)):=by
   unfold Instr.buildSlice;rw[<-qq] at hf;simp only[Sem.run_bind,run_underlying hu,Result.andThen_ok,sizeOf,typeInfo,run_program,hi,Sem.run_pure];rw[if_neg (by rw[dC];omega)]
   have cL:∀xs:Array Value,Instr.fill (λVY=>some (VY*i.size,i.size)) xs (ps.map λp=>(p.1,a.eval p.2)).toList=some ys ->
     Sem.run P (match Instr.fill (λVY=>some (VY*i.size,i.size)) xs (ps.map λp=>(p.1,a.eval p.2)).toList with
      | some cells=>(do pure (.slice (some (<-newRow el cells)) k k):Sem Value)
      | _ => stuck "buildSlice: a part of the wrong size") w = .ok (.slice (some ⟨w.heap.size, 0, none⟩) k k) (w.alloc (.cells ys el)) := by
    intro xs hx;rw[hx];simp[newRow]
   by_cases VZ:k*i.size=0
   .rw[if_pos VZ]
    have gZ:(abw (k*i.size)).map (λj=>(#[]:Array Value)[j%(#[]:Array Value).size]!)=(abw (k*i.size)).map (λj=>zv.cells[j%zv.cells.size]!):=by apply ace;rw[VZ];simp
    rw[Sem.run_bind,Sem.run_pure,Result.andThen_ok];refine cL _ ?_;rw[gZ];simpa[dC] using hf
   .rw[if_neg VZ];simp only[Sem.run_bind,zeroValue,typeInfo,run_program,hi,hz,Sem.run_pure,Result.andThen_ok];refine cL _ ?_;simpa[dC] using hf
  simp only[execOp,ho,Sem.run_bind,Sem.run_pure];change (Result.andThen ((Instr.buildSlice t k (ps.map λp=>(p.1,a.eval p.2))).run P w) _)=_;rw[hb];rfl
 exact⟨ys,bN,hy,yu⟩
def zq5{t b:TypeId}{k:Nat}{ps:Array (Nat×Operand)}{z:List V}{qs:List (Nat×X)}{i:TypeInfo}{g:Value}(m:o.op=.buildSlice t k ps)
  (p:elemOf? P t=some b) (hi:P.info? b=some i) (r:i.size=z.length) (s:0<z.length) (u:k*z.length<=16777216) (v:i.zero=some g) (h:sE g.cells.toList z=true)
  (x:uf M.fm (λj=>some (j*z.length,z.length)) ps.toList (qs.map λq=>(q.1*z.length,z.length,q.2))=true)
  (y:bn M w e a n) {es:List (List V)} (A:AG e z.length (aaj k z) qs=some es) :
  ∃ys:Array Value,(execOp a.eval o).run P w=.ok (.value (.slice (some ⟨w.heap.size,0,none⟩) k k)) (w.alloc (.cells ys b))/\ai M w es.flatten ys.toList/\es.length=k/\(∀f∈es,f.length=z.length)/\(∀f∈es,∀c∈f,c.pure=true):=by
 have B:=HF h;obtain⟨C,l,D,E⟩:=zq4 (λf d=>by rw[aas d]) (λf d=>by rw[aas d];exact B) A;rw[abn] at l;obtain⟨ys,F,G,_⟩:=ztp m p hi r s u v h x y C;exact⟨ys,F,G,l,D,E⟩
def zAK{t b:TypeId}{k base:Nat}{ps:Array (Nat×Operand)}{z:List V}{qs:List (Nat×X)}{i:TypeInfo}{d:Value}(m:o.op=.buildSlice t k ps)
  (p:elemOf? P t=some b) (hi:P.info? b=some i) (s:i.size=z.length) (x:0<z.length) (y:k*z.length<=16777216) (A:i.zero=some d) (B:sE d.cells.toList z=true)
  (C:uf M.fm (λj=>some (j*z.length,z.length)) ps.toList (qs.map λq=>(q.1*z.length,z.length,q.2))=true)
  (D:bn M w e a n) (f:aG M w H) (c:aU base e H (.bslice k z qs)=some (v,H1)):di P o a M H w v H1:=by
 simp only[aU] at c;split at c
 case h_2=>cases c
 rename_i O E;cases c;obtain⟨F,G,I,g,J,K⟩:=zq5 m p hi s x y A B C D E;obtain⟨st,h,r⟩:=MG (M':=M.jz w.heap.size none) f (iQ.alloc w (.cells F b)) (Same.jz M _ _);refine⟨_,_,_,G,?_,st,h,r⟩;simp only[aq];refine⟨K,some ⟨w.heap.size,0,none⟩,k,by rw[g],an,⟨.inr rfl,⟨z.length,J⟩,?_⟩,by simp only[mg];exact g.symm⟩;refine VN (ai.step st f h I) ?_ ?_
 .intro j u L;rw[cell_of_row _ w.heap.size (0+j) _ b (0,0) (heap_alloc_new w _)];simpa using L
 .intro j _ l N;simp[Mm.jz] at N
def zzy{t c:TypeId}{k base s:Nat}{ps:Array (Nat×Operand)}{z:List V}{qs:List (Nat×X)}{i:TypeInfo}{h:Value}(C:o.op=.buildSlice t k ps)
  (D:elemOf? P t=some c) (hi:P.info? c=some i) (E:i.size=z.length) (F:0<z.length) (G:k*z.length<=16777216) (I:i.zero=some h) (J:sE h.cells.toList z=true)
  (K:uf M.fm (λj=>some (j*z.length,z.length)) ps.toList (qs.map λq=>(q.1*z.length,z.length,q.2))=true)
  (L:bn M w e a n) (l:aG M w H) (b:aU base e H (.jM s k z qs)=some (v,H1)):di P o a M H w v H1:=by
 simp only[aU] at b;split at b
 case h_2=>cases b
 rename_i m N;split at b
 case isFalse=>cases b
 rename_i p;cases b;obtain⟨d,O,f,r,u,Q⟩:=zq5 C D hi E F G I J K L N
 have x:d.size=k*z.length:=by rw[<-aaA,ic f,w8 u,r]
 have R:m.flatten.length=k*z.length:=by rw[w8 u,r]
 obtain⟨y,A,B⟩:=zDe l ⟨0,none,k,z.length⟩ p
 obtain⟨S,T,U⟩:=MH (ob:=.cells d c) (blk0:=.grow m.flatten z.length true) B p rfl λg W=>by
  simp only[aJ];refine⟨zAI Q,by simp[Mm.i_],by simp[Mm.i_,Mm.ml],by simp[Mm.i_,Mm.ml],d,c,?_,by simp[Mm.i_,Mm.ml,x],?_,λ_=>by rw[x,R]⟩
  .simp only[Mm.i_,if_true];exact heap_alloc_new w _
  .rw[zve f];exact ai.step g B W (ai.step y l A f)
 refine⟨_,_,_,O,?_,y.trans S,A.trans T (aaf _),U⟩;simp only[aq];exact⟨by simp[Mm.i_],k,by simp[Mm.i_,Mm.ml],aaf _,λ_=>by simp[Mm.i_,Mm.ml]⟩
def Rs{sz:Nat}:∀{k:Nat} {cs:List V},k*sz<=cs.length->(pZ sz k cs).flatten=cs.take (k*sz)/\(pZ sz k cs).length=k/\∀e∈pZ sz k cs,e.length=sz/\∀c∈e,c∈cs
 | 0,cs,_=>by simp[pZ]
 | k+1,cs,h=>by
  rw[aaB,aaZ] at h;obtain⟨d,f,b⟩:=Rs (sz:=sz) (k:=k) (cs:=cs.drop sz) (by rw[aao];omega);refine⟨?_,by simp[pZ,f],?_⟩
  .simp only[pZ,aaw,d];rw[aaB,aaZ,Nat.add_comm,List.take_add]
  .intro e he;simp only[pZ,acj] at he
   rcases he with rfl|he
   .exact⟨by rw[aae];omega,λc a=>aai a⟩
   .exact⟨(b e he).1,λc a=>aan ((b e he).2 c a)⟩
def zFO{t Y:TypeId}{x:Operand}{Z:X}{base:Nat}(z:o.op=.convert t t x)(hx:aI M.fm x Z=true)(hs:P.underlying t=some (.slice Y))(iK:P.underlying Y=some (.int .u8))
  (ht:bn M w e a n) (q:aG M w H) (r:aU base e H (.mark Z)=some (v,H1)):di P o a M H w v H1:=by
 have F:=fP hx ht;simp only[aU] at r;split at r
 case h_2=>cases r
 rename_i id k hp;split at r
 case h_2=>cases r
 rename_i cs sz G;split at r
 case isFalse=>cases r
 rename_i A;obtain⟨rfl,rfl,I⟩:=A;cases r;have I:=abG.1 I;rw[hp] at F;simp only[aq] at F;obtain⟨eg,B,fy,J,K⟩:=F;have cU:=q.rel id _ G;simp only[aJ] at cU;obtain⟨yu,L,N,Ro,xs,O,hh,gZ,hE,Q⟩:=cU;have kV:=K N;have yw:=Q trivial;rw[acm,<-kV] at gZ;have ah:id<H.length:=(aad.1 G).1;have lO:xs.toList.take cs.length=xs.toList:=abQ (by rw[aaA,yw];exact aaf _);rw[lO] at hE;obtain⟨w',C⟩:=bb (w.freeze ⟨M.j id,xs.size,none⟩ 1)
 have R:∀b,b≠M.j id->w'.heap[b]?=w.heap[b]?:=λb D=>by
  rw[C];simp only[World.freeze];rw[if_neg ag7];simp only[aa3];rw[if_neg (λh=>D h.symm)]
 have mX:w'.heap[M.j id]?=some (.cells xs O (xs.size,xs.size+1)):=by rw[C];simp only[World.freeze];rw[if_neg ag7];simp only[aa3,if_true,hh];rfl
 have dC:w'.heap.size=w.heap.size:=by rw[C];simp only[World.freeze];rw[if_neg ag7];simp only[Array.size_modify]
 have S:w'.os=w.os/\w'.tape=w.tape/\w'.output=w.output:=by rw[C];simp only[World.freeze];rw[if_neg ag7];exact⟨rfl,rfl,rfl⟩
 have fM:w.shape? (M.j id)=some (O,xs.size):=by simp[World.shape?,hh]
 have bN:(execOp a.eval o).run P w=.ok (.value (.slice (some ⟨M.j id,0,none⟩) cs.length B)) w':=by rw[C];simp[execOp,z,fy,convert,run_underlying hs,run_underlying iK,markStringish,fM]
 obtain⟨m,f⟩:=bb ((M.kill id).cJ (M.j id) cs.length)
 have T:aS M H id=some (M.j id):=by simp[aS,G]
 have s:(H.set id (some (ax.zone 1)))[id]?=some (some (.zone 1)):=aak ah
 have U:aS m (H.set id (some (.zone 1))) id=none:=by rw[f];unfold aS;rw[s];simp[Mm.kill,Mm.cJ]
 have bo:∀i,i≠id->aS m (H.set id (some (.zone 1))) i=aS M H i:=by intro i h;rw[f];unfold aS;rw[getElem?_set_ne h];simp only[Mm.kill,Mm.cJ,h,if_false]
 have u:∀i b,aS m (H.set id (some (.zone 1))) i=some b->i≠id/\aS M H i=some b:=by
  intro i b hi
  by_cases h:i=id
  .subst h;rw[U] at hi;cases hi
  .rw[bo i h] at hi;exact⟨h,hi⟩
 have p:eI M H w m (H.set id (some (.zone 1))) w':={
  os:=S.1
  tape:=S.2.1
  output:=S.2.2
  size:=by rw[dC];exact aaf _
  same:=λb _ z=>R b λe=>z ⟨id,by rw[T,e]⟩
  cells:=λb l o _ g z=>by
   by_cases e:b=M.j id
   .subst e;rw[L] at g;cases g;omega
   .exact World.cell?_of_block (w:=w) (R b e)
  n_:=λb _ g=>by
   rw[f];simp only[Mm.cJ,Mm.kill]
   rw[if_neg];· exact g
   intro e;subst e;rw[L] at g;cases g
  jz:=λb l' _ g=>by
   rw[f];simp only[Mm.cJ,Mm.kill]
   by_cases e:b=M.j id
   .subst e;rw[L] at g;cases g;exact⟨cs.length,ir,abP _⟩
   .exact⟨l',by rw[if_neg e];exact g,aaf _⟩
  limo:=λb _ z=>by
   rw[f];simp only[Mm.cJ,Mm.kill];rw[if_neg];intro e;exact z ⟨id,by rw[T,e]⟩
  own:=λb _ HL=>by obtain⟨i,hi⟩:=HL;exact⟨i,(u i b hi).2⟩
  fm:=by rw[f];rfl }
 have E:fe M m H.length:=λi _ hi=>by
  rw[f];refine⟨hi,rfl,?_⟩;simp only[Mm.kill,Mm.cJ];split
  .rename_i d;subst d;exact⟨by simp[N],λh=>by simp[N] at h⟩
  .exact vm.refl _
 have hR:aG m w' (H.set id (some (.zone 1))):=by
  refine⟨λi=>?_,λi b hi=>?_,λi i' b V d=>q.inj i i' b (u i b V).2 (u i' b d).2,q.oW.step p q E⟩
  .by_cases d:i=id
   .subst d;rw[f];simp only[Mm.kill,Mm.cJ,eg,true_iff];exact⟨_,s⟩
   .rw[getElem?_set_ne d,f];exact q.rX i
  .by_cases d:i=id
   .subst d;rw[s] at hi;cases hi;rw[f];simp[aJ,Mm.kill,Mm.cJ]
   .rw[getElem?_set_ne d] at hi;refine aJ.step p q E hi (λb js=>?_) (by rw[f];simp only[Mm.kill,Mm.cJ,d,if_false]);have D:b≠M.j id:=λe=>d (q.inj i id b js (by rw[T,e]));exact⟨R b D,by rw[f];simp only[Mm.cJ,Mm.kill];rw[if_neg D]⟩
 refine⟨_,_,m,bN,?_,p,E,hR⟩;obtain⟨V,d,h3⟩:=Rs (sz:=1) (k:=cs.length) (cs:=cs) an;simp only[aq];refine⟨λe W c A=>I c ((h3 e W).2 c A),some ⟨M.j id,0,none⟩,B,by rw[d],by rw[d];exact J,⟨.inr rfl,⟨1,λe W=>(h3 e W).1⟩,?_⟩,?_⟩
 .rw[Kb,V,abQ an];refine DF λi c A=>?_;obtain⟨y,hy,V4⟩:=og (ai.step p q E hE) A;refine⟨y,?_,λl g=>?_,V4⟩
  .rw[cell_of_row w' (M.j id) (0+i) xs O _ mX];simpa using hy
  .rw[f] at g;simp only[Mm.cJ,if_true,aab.injEq] at g;have:=(aad.1 A).1;show(0:Nat)+i<l;omega
 .simp only[mg,d];omega
def zzz{t c:TypeId}{k base sp:Nat}{ps:Array (Nat×Operand)}{z:List V}{qs:List (Nat×X)}{i:TypeInfo}{d:Value}(f:o.op=.buildSlice t k ps)
  (g:elemOf? P t=some c) (hi:P.info? c=some i) (h:i.size=z.length) (l:0<z.length) (m:k*z.length<=16777216) (p:i.zero=some d) (s:sE d.cells.toList z=true)
  (u:uf M.fm (λj=>some (j*z.length,z.length)) ps.toList (qs.map λq=>(q.1*z.length,z.length,q.2))=true)
  (x:bn M w e a n) (y:aG M w H) (b:aU base e H (.bsliceR sp k z qs)=some (v,H1)):di P o a M H w v H1:=by
 simp only[aU] at b;split at b
 case isFalse=>cases b
 rename_i A;split at b
 case h_2=>cases b
 rename_i ds B;cases b;obtain⟨G,C,D,E⟩:=ztp f g hi h l m p s u x B;obtain⟨st,F,r⟩:=Ra (t:=c) y A D E;refine⟨_,_,_,C,?_,st,F,r⟩;simp only[aq,Mm.i_,decide_true,aaI,if_true,true_and];exact⟨k,rfl,aaf _⟩
def zFP{c:V}{ds:List V}{x:Value}{sz:Nat}(E:aG M w H)(B:0<sz)(h:aq M w c x)(l:Q8 H sz c=some ds)(k:Nat)(o:k<=ds.length/sz) :
  (Builtin.lenOf x).run P w=.ok (ds.length/sz) w/\(∀d∈ds,d.fB=true)/\∃xs:List Value,(Builtin.firstCells sz k x).run P w=.ok xs.toArray w/\ai M w (ds.take (k*sz)) xs/\xs.length=k*sz:=by
 have F:k*sz<=ds.length:=abi (aaN _ o) (Nat.div_mul_le_self _ _)
 cases c<;>simp only[Q8,reduceCtorEq] at l
 case vs es tk =>
  split at l
  case isFalse=>cases l
  rename_i t;cases l
  have t:∀e∈es,e.length=sz:=λe r=>by have:=abG.1 t e r;simpa using this
  have G:=w8 t
  have i:es.flatten.length/sz=es.length:=by rw[G];exact ab2 _ B
  rw[i] at o |-;simp only[aq] at h;obtain⟨I,v,n,rfl,J,p,_⟩:=h
  refine⟨by simp[Builtin.lenOf],λd hd=>by
   obtain⟨f,K,hd⟩:=aa4.1 hd
   exact V.cr (I f K d hd),?_⟩
  cases v with
  | none =>
   obtain⟨rfl,rfl⟩:=p
   have:k=0:=by simpa using o
   subst this
   exact⟨[],by simp[Builtin.firstCells],by simp[ai],ir⟩
  | some v =>
   obtain⟨b,a,sp⟩:=v;obtain⟨s,_,p⟩:=p
   by_cases L:k=0
   .subst L;exact⟨[],run_firstCells_some w sz 0 ⟨b,a,sp⟩ es.length n [] ir (λj u g=>by simp at g),by simp[ai],ir⟩
   have N:es≠[]:=by rintro rfl;simp at o;omega
   have s:=s.resolve_left N;simp only at s p;subst s;obtain⟨xs,C,O⟩:=Rn p;have y:=ic C;have z:=wE C (k*sz)
   refine⟨xs.take (k*sz),run_firstCells_some w sz k ⟨b,a,none⟩ es.length n (xs.take (k*sz)) (by rw[aae];omega) (λj u g=>by
    rw[Addr.add_mid];rw[aav] at g;split at g
    .exact O j u g
    .cases g),z,by rw[aae];omega⟩
 case rs id a m zg =>
  split at l
  case h_2=>cases l
  rename_i A Q;split at l
  case isFalse=>cases l
  rename_i U;cases l
  have q:((A.drop a).take (m*sz)).length=m*sz:=by rw[aae,aao];omega
  have i:((A.drop a).take (m*sz)).length/sz=m:=by rw[q];exact ab2 _ B
  rw[i] at o |-;simp only[aq] at h;obtain⟨_,n,rfl,J⟩:=h;have D:=E.rel id _ Q;simp only[aJ] at D;obtain⟨R,_,xs,S,T,r⟩:=D;have y:=ic r;have z:=wE (wE (yj r a) (m*sz)) (k*sz);have W:k*sz<=m*sz:=aaN _ o
  refine⟨by simp[Builtin.lenOf],λd hd=>R d (aan (aai hd)),_,run_firstCells_some w sz k ⟨M.j id,a,none⟩ m n ((((xs.toList.take A.length).drop a).take (m*sz)).take (k*sz)) (by
   rw[aae,aae,aao,y];omega) (λj u g=>by
    rw[Addr.add_mid,cell_of_row w (M.j id) (a+j) xs S (0,0) T];rw[aav] at g;split at g
    .rw[aav] at g;split at g
     .rw[abj] at g;exact Rj g
     .cases g
    .cases g),z,by rw[aae,aae,aao,y];omega⟩
def zHr{t t' D:TypeId}{x y:Operand}{E F:X}{base sz:Nat}{i:TypeInfo}(Q:o.op=.call { callee:=.builtin .copy,args:=#[x,y],argTypes:=#[t,t'] })
  (R:aI M.fm x E=true) (S:aI M.fm y F=true) (T:elemOf? P t=some D) (hi:P.info? D=some i) (U:i.size=sz) (G:bn M w e a n) (u:aG M w H)
  (g:aU base e H (.FI sz E F)=some (v,H1)):di P o a M H w v H1:=by
 have z:=fP R G;have V:=fP S G;have W:=elemOf?_some T;simp only[aU] at g;split at g
 case h_2=>cases g
 rename_i id b m zg Y;split at g
 case h_2=>cases g
 rename_i h ds I Z;split at g
 case isFalse=>cases g
 rename_i d;obtain⟨ha,hz⟩:=d;cases g;rw[Y] at z;simp only[aq] at z;obtain⟨_,hf,fy,kV⟩:=z;obtain⟨k,q⟩:=bb (min (ds.length/sz) m);rw[<-q]
 have Kn:k<=m:=by rw[q];exact Nat.min_le_right _ _
 obtain⟨l,J,xs,xc,A,B⟩:=zFP (P:=P) u hz V Z k (by rw[q];exact Nat.min_le_left _ _);have K:=u.rel id _ I;simp only[aJ] at K;obtain⟨L,_,f,te,N,C⟩:=K;have jX:=ic C;have jg:k*sz<=m*sz:=aaN _ Kn;have V5:=ic A;have re:=zvf A (λc d=>J c (aai d))
 have O:h.length<=f.toList.length:=by rw[aae] at jX;omega
 have hg:h.length<=f.size:=by simpa using O
 have p:=run_storeCells_at P (M.j id) b te xs 0 f w N (by rw[B];omega) re;simp only[abo] at p
 obtain⟨s,ii,r⟩:=VE (ds:=h.take b++ds.take (k*sz)++h.drop (b+k*sz)) u I N (ys:=(f.toList.take b++xs++f.toList.drop (b+xs.length)).toArray)
  (by
   rw[show(h.take b++ds.take (k*sz)++h.drop (b+k*sz)).length=h.length by simp only[aar,aae,aao] at V5 |-;omega];simp only[];rw[zq1 O (by rw[B];omega)];refine ze (ze (wE C b) A) ?_;rw[B]
   exact yj C _)
  (λc d=>by
   simp only[aba] at d
   rcases d with(d|d)|d
   .exact L c (aai d)
   .exact J c (aai d)
   .exact L c (aan d))
 refine⟨.value (.int .i64 k),_,_,?_,by simp only[aq],s,ii,r⟩;have V6:Nat.min (ds.length/sz) m=k:=q.symm;simp[execOp,Q,resolve,invoke,builtin,fy,Builtin.copy_,run_underlying W,l,V6,sizeOf,typeInfo,hi,U,xc,p,goInt]
def fV(P:Program)(t:TypeId):Bool:=match P.underlying t with|some d=>d.isRow|none=>false
def Ko(p:TypeId->Option (List Kd)):Nat->List Field->Option (List Kd)
 | _,[]=>some []
 | off, f :: fs => if f.name ≠ "_" ∧ f.offset = off then
   match p f.type with
   | some ks=>match Ko p (off+ks.length) fs with
    | some rs=>some (ks++rs)
    | none=>none
   | none=>none
  else none
def uY(P:Program):Nat->TypeId->Option (List Kd)
 | 0,_=>none
 | k+1,t =>
  match(match P.underlying t with
   | some (.int _)=>some [Kd.int]
   | some .bool=>some [Kd.bool]
   | some .string=>some [Kd.str]
   | some (.struct b)=>if P.stoodInHeld t=false then Ko (uY P k) 0 b.toList else none
   | some (.array m c)=>match uY P k c with
    | some a=>some (aaj m a).flatten
    | none=>none
   | _=>none) with
  | some a=>if iw P t a.length (fV P t)=true then some a else none
  | none=>none
def V7{k:Nat}{t:TypeId}{ks:List Kd}(h:uY P k t=some ks):iw P t ks.length (fV P t)=true:=by
 cases k with
 | zero=>simp[uY] at h
 | succ k =>
  simp only[uY] at h;split at h
  .split at h
   .rename_i a;cases h;exact a
   .cases h
  .cases h
def Kp:∀{ks:List Kd} {cs ds:List V} {b:Bool},cF ks cs ds=some b->cs.length=ks.length/\ds.length=ks.length
 | [],[],[],_,_=>⟨rfl,rfl⟩
 | [],[],_::_,_,h=>by simp[cF] at h
 | [],_::_,_,_,h=>by simp[cF] at h
 | _::_,[],_,_,h=>by simp[cF] at h
 | _::_,_::_,[],_,h=>by simp[cF] at h
 | k::ks,c::cs,d::ds,b,h=>by
  simp only[cF] at h;split at h
  .rename_i x y e a;have:=Kp a;simp[this.1,this.2]
  .cases h
def MX:∀{ks rs:List Kd} {cs ds:List V} {b:Bool},cF (ks++rs) cs ds=some b ->
  ∃x y,cF ks (cs.take ks.length) (ds.take ks.length)=some x/\cF rs (cs.drop ks.length) (ds.drop ks.length)=some y/\b=(x&&y)
 | [],rs,cs,ds,b,h=>⟨true,b,by simp[cF],by simpa using h,ir⟩
 | k::ks,rs,[],_,b,h=>by simp[cF] at h
 | k::ks,rs,_::_,[],b,h=>by simp[cF] at h
 | k::ks,rs,c::cs,d::ds,b,h=>by
  simp only[ab8,cF] at h;split at h
  .rename_i x y a e;obtain⟨f,g,i,j,rfl⟩:=MX e;simp only[aab.injEq] at h;refine⟨x&&f,g,?_,by simpa using j,by rw[<-h,Bool.and_assoc]⟩;simp only[aaX,List.take_succ_cons,cF,a,i]
  .cases h
def DM(P:Program)(d:Nat)(t:TypeId)(ks:List Kd):Prop :=
 ∀(M:Mm) (w a:World) (c ds:List V) (xs e:List Value) (b:Bool),ai M w c xs->ai M w ds e->cF ks c ds=some b ->
  (Op.equalIn d t (pz (fV P t) xs) (pz (fV P t) e)).run P a=.ok b a
def Kq{t:TypeId}{sz off:Nat}{a:Bool}{xs:List Value}(b:iw P t sz a=true)(c:off+sz<=xs.length) :
  (part t xs.toArray off).run P w=.ok (pz a ((xs.drop off).take sz)) w:=by
 have:=VM (P:=P) (w:=w) (xs:=xs.toArray) b (by simpa using c);simpa using this
def zpQ{d:Nat}{p:TypeId->Option (List Kd)}(i:∀t ks,p t=some ks->iw P t ks.length (fV P t)=true/\DM P d t ks):∀{fs:List Field} {off:Nat} {ks:List Kd} {cs ds:List V} {xs ys:List Value} {b:Bool} {M:Mm} {w w2:World},
  Ko p off fs=some ks->ai M w cs xs->ai M w ds ys->off<=xs.length->off<=ys.length->cF ks (cs.drop off) (ds.drop off)=some b->(Op.eqFields d xs.toArray ys.toArray fs).run P w2=.ok b w2
 | [],off,ks,cs,ds,xs,ys,b,M,w,w2,a,c,e,m,n,h=>by
  simp only[Ko,aab.injEq] at a;subst a
  have:b=true:=by
   cases o:cs.drop off<;>cases hd:ds.drop off<;>rw[o,hd] at h<;>simp[cF] at h
   exact h
  subst this
  simp[Op.eqFields]
 | f::fs,off,ks,cs,ds,xs,ys,b,M,w,w2,a,c,e,m,n,h=>by
  simp only[Ko] at a;split at a
  case isFalse=>cases a
  rename_i q;obtain⟨r,s⟩:=q;split at a
  case h_2=>cases a
  rename_i j u;split at a
  case h_2=>cases a
  rename_i rs v;cases a;obtain⟨k,g⟩:=i _ _ u;obtain⟨x,y,l,z,rfl⟩:=MX h;have G:=ic c;have H:=ic e;obtain⟨A,B⟩:=Kp l;simp only[aae,aao] at A B;have C:=Kq (P:=P) (w:=w2) (off:=off) (xs:=xs) k an;have D:=Kq (P:=P) (w:=w2) (off:=off) (xs:=ys) k an;have E:=g M w w2 _ _ _ _ x (wE (yj c off) j.length) (wE (yj e off) j.length) l;have F:=zpQ (w2:=w2) i v c e an an (by simpa[abu] using z)
  simp only[Op.eqFields,s];rw[if_pos r];simp only[Sem.run_bind,C,D,E,Result.andThen_ok];cases x
  .simp
  .simpa using F
def zq6{d:Nat}{c:TypeId}{ks:List Kd}(g:iw P c ks.length (fV P c)=true)(a:DM P d c ks):∀{m off:Nat} {cs ds:List V} {xs ys:List Value} {b:Bool} {M:Mm} {w w2:World},
  ai M w cs xs->ai M w ds ys->off*ks.length<=xs.length->off*ks.length<=ys.length->cF (aaj m ks).flatten (cs.drop (off*ks.length)) (ds.drop (off*ks.length))=some b ->
  (Op.eqItems d c ks.length xs.toArray ys.toArray (ab7 off m)).run P w2=.ok b w2
 | 0,off,cs,ds,xs,ys,b,M,w,w2,e,f,j,k,h=>by
  simp only[List.replicate_zero,aaP] at h
  have:b=true:=by
   cases l:cs.drop (off*ks.length)<;>cases hd:ds.drop (off*ks.length)<;>rw[l,hd] at h<;>simp[cF] at h
   exact h
  subst this
  simp[Op.eqItems]
 | m+1,off,cs,ds,xs,ys,b,M,w,w2,e,f,j,k,h=>by
  rw[abt,aaw] at h;obtain⟨x,y,i,n,rfl⟩:=MX h;have v:=ic e;have z:=ic f;obtain⟨o,p⟩:=Kp i;simp only[aae,aao] at o p;have q:=Kq (P:=P) (w:=w2) (off:=off*ks.length) (xs:=xs) g an;have r:=Kq (P:=P) (w:=w2) (off:=off*ks.length) (xs:=ys) g an;have s:=a M w w2 _ _ _ _ x (wE (yj e _) ks.length) (wE (yj f _) ks.length) i
  have t:(off+1)*ks.length=off*ks.length+ks.length:=by rw[aaB,aaZ]
  have u:=zq6 (w2:=w2) (m:=m) (off:=off+1) g a e f an an (by rw[t];simpa[abu] using n);rw[ab_];simp only[Op.eqItems,Sem.run_bind,q,r,s,Result.andThen_ok];cases x
  .simp
  .simpa using u
def V8:∀{k:Nat} {t:TypeId} {ks:List Kd} {d:Nat},uY P k t=some ks->k<=d->DM P d t ks
 | 0,t,ks,d,h,_=>by simp[uY] at h
 | k+1,t,ks,0,h,hd=>by omega
 | k+1,t,ks,d+1,h,hd=>by
  have T:=V7 h;have q:∀t ks,uY P k t=some ks->iw P t ks.length (fV P t)=true/\DM P d t ks:=λt ks h=>⟨V7 h,V8 h an⟩;simp only[uY] at h;split at h
  case h_2=>cases h
  rename_i H e;split at h
  case isFalse=>cases h
  cases h;intro M w p I ds xs A b r s n;obtain⟨J,K⟩:=Kp n;have U:=ic r;have V:=ic s
  have o:∀{kd:Kd},ks=[kd]->∃c d x y,I=[c]/\ds=[d]/\xs=[x]/\A=[y]/\aq M w c x/\aq M w d y/\qI kd c d=some b:=by
   intro kd L;subst L;obtain⟨c,rfl⟩:=abR.1 J;obtain⟨d',rfl⟩:=abR.1 K;simp only[ai] at r s;obtain⟨x,_,rfl,j,rfl⟩:=r;obtain⟨y,_,rfl,f,rfl⟩:=s;refine⟨c,d',x,y,rfl,rfl,rfl,rfl,j,f,?_⟩;simp only[cF] at n;split at n
   .rename_i u v a D;simp only[aab.injEq] at D n;subst D;rw[a,<-n,Bool.and_true]
   .cases n
  split at e
  .rename_i W a
   have l:fV P t=false:=by simp[fV,a,TypeDesc.isRow]
   simp only[aab.injEq] at e;obtain⟨c,d',x,y,rfl,rfl,rfl,rfl,j,f,g⟩:=o e.symm;rw[l]
   cases c<;>cases d'<;>simp only[qI,reduceCtorEq] at g
   split at g
   .rename_i N;subst N;simp only[aab.injEq] at g;subst g;simp only[aq] at j f;subst j;subst f;exact run_equalIn_int p d t _ _ _ _ a
   .cases g
  .rename_i a
   have l:fV P t=false:=by simp[fV,a,TypeDesc.isRow]
   simp only[aab.injEq] at e;obtain⟨c,d',x,y,rfl,rfl,rfl,rfl,j,f,g⟩:=o e.symm;rw[l]
   cases c<;>cases d'<;>simp only[qI,reduceCtorEq,aab.injEq] at g
   subst g;simp only[aq] at j f;subst j;subst f;exact run_equalIn_bool p d t _ _ a
  .rename_i a
   have l:fV P t=false:=by simp[fV,a,TypeDesc.isRow]
   simp only[aab.injEq] at e;obtain⟨c,d',x,y,rfl,rfl,rfl,rfl,j,f,g⟩:=o e.symm;rw[l]
   cases c<;>cases d'<;>simp only[qI,reduceCtorEq,aab.injEq] at g
   subst g;simp only[aq] at j f;subst j;subst f;show(Op.equalIn (d+1) t (.string _) (.string _)).run P p=_;rw[run_equalIn_string p d t _ _ a];simp
  .rename_i O a
   have l:fV P t=true:=by simp[fV,a,TypeDesc.isRow]
   split at e
   case isFalse=>cases e
   rename_i B;rw[l]
   have E:P.fieldsOf t=O:=by simp[Program.fieldsOf,a]
   have:=run_equalIn_struct (P:=P) p d t xs.toArray A.toArray (by rw[E];exact a) B;simp only[pz,if_true];rw[this,E];exact zpQ q e r s (abP _) (abP _) (by simpa using n)
  .rename_i m F a
   have l:fV P t=true:=by simp[fV,a,TypeDesc.isRow]
   split at e
   case h_2=>cases e
   rename_i Q R;simp only[aab.injEq] at e;rw[l];obtain⟨G,C⟩:=q _ _ R;have z:=G;unfold iw at z;split at z
   case h_2=>cases z
   rename_i _ i X hi;simp only[aag,beq_iff_eq] at z
   have S:P.cellsOf F=Q.length:=by
    have:=run_sizeOf (P:=P) w hi
    have f:(sizeOf F).run P w=.ok i.size w:=by simp[sizeOf,typeInfo,hi]
    rw[f] at this;simp only[Result.ok.injEq,and_true] at this;rw[<-this];exact z.1
   have:=run_equalIn_array (P:=P) p d xs.toArray A.toArray a hi;simp only[pz,if_true];rw[this,S,List.range_eq_range'];exact zq6 G C r s ir ir (by rw[e];simpa using n)
  .cases e
def zHs{c s:TypeId}{x y:Operand}{k l:X}{base:Nat}{neg:Bool}{ks:List Kd}(m:o.op=.binOp (if neg then .neq else .eql) c x y s)(t:aI M.fm x k=true)(u:aI M.fm y l=true)
  (z:uY P 20 c=some ks) (p:P.eqGuardType P.depth c=false) (A:fV P c=true) (q:bn M w e a n) (B:aG M w H) (f:aU base e H (.Hv ks neg k l)=some (v,H1)):di P o a M H w v H1:=by
 have i:=fP t q;have j:=fP u q;simp only[aU] at f;split at f
 case h_2=>cases f
 rename_i C ds D E;split at f
 case h_2=>cases f
 rename_i b F;cases f;rw[D] at i;rw[E] at j;simp only[aq] at i j;obtain⟨_,xs,r,G⟩:=i;obtain⟨_,I,g,J⟩:=j;have h:=V8 (P:=P) (d:=10000) z an M w w C ds xs I b G J F;rw[A] at h;simp only[pz,if_true] at h;refine .plain (rv:=.bool (if neg then !b else b)) B ?_ (by simp only[aq]);cases neg
 .simp only[execOp,m,r,g,Sem.run_bind,aaq,if_false,run_eqGuard_agg w _ c x y _ _ p,Result.andThen_ok,run_eql_struct,h];rfl
 .simp only[execOp,m,r,g,Sem.run_bind,if_true,run_eqGuard_agg w _ c x y _ _ p,Result.andThen_ok,run_neq_struct,h];rfl
def V_(P:Program)(k:Nat)(t:TypeId)(y:Operand):Bool :=
 match k,P.underlying t,y with
 | 0,some (.func _ _ _),.const .nilFunc=>true
 | 1,some (.pointer _),.const (.pointer none)=>true
 | 2,some (.map _ _),.const (.map none)=>true
 | _,_,_=>false
def zAL(d:Nat){t:TypeId}{p q:Array TypeId}{r:Bool}(a:P.underlying t=some (.func p q r))(f:Fn)(g h:Array Value):(Op.equalIn (d+1) t (.func f g h) .nilFunc).run P w=.ok false w:=by simp[Op.equalIn,run_underlying a]
def zxq(d:Nat){t:TypeId}{p q:Array TypeId}{r:Bool}(a:P.underlying t=some (.func p q r)):(Op.equalIn (d+1) t .nilFunc .nilFunc).run P w=.ok true w:=by simp[Op.equalIn,run_underlying a]
def zxr(d:Nat){t p:TypeId}(a:P.underlying t=some (.pointer p)):(Op.equalIn (d+1) t (.pointer none) (.pointer none)).run P w=.ok true w:=by simp[Op.equalIn,run_underlying a]
def zq7(d:Nat){t p:TypeId}(a:P.underlying t=some (.pointer p))(b:Addr):(Op.equalIn (d+1) t (.pointer (some b)) (.pointer none)).run P w=.ok false w:=by simp[Op.equalIn,run_underlying a]
def zzB(d:Nat){t p q:TypeId}(a:P.underlying t=some (.map p q))(b:Nat):(Op.equalIn (d+1) t (.map (some b)) (.map none)).run P w=.ok false w:=by simp[Op.equalIn,run_underlying a]
def zxs(d:Nat){t p q:TypeId}(a:P.underlying t=some (.map p q)):(Op.equalIn (d+1) t (.map none) (.map none)).run P w=.ok true w:=by simp[Op.equalIn,run_underlying a]
def HS{c l:TypeId}{x y:Operand}{e f:Value}{b neg:Bool}(g:o.op=.binOp (if neg then .neq else .eql) c x y l)(h:a.eval x=e)(i:a.eval y=f)(m:aG M w H)
  (j:∀op,(eqGuard op c x y e f).run P w=.ok () w) (n:binOp .eql c e f=(do pure (.bool (<-Op.equal c e f)))) (p:binOp .neq c e f=(do pure (.bool (!(<-Op.equal c e f)))))
  (q:∀d,(Op.equalIn (d+1) c e f).run P w=.ok b w):di P o a M H w (.bool (if neg then !b else b)) H:=by
 have k:(Op.equal c e f).run P w=.ok b w:=q 9999;refine .plain (rv:=.bool (if neg then !b else b)) m ?_ (by simp only[aq]);cases neg
 .simp only[execOp,g,h,i,Sem.run_bind,aaq,if_false,j,Result.andThen_ok,n,k,Sem.run_pure]
 .simp only[execOp,g,h,i,Sem.run_bind,if_true,j,Result.andThen_ok,p,k,Sem.run_pure]
def zDg{r s:TypeId}{x y:Operand}{m:X}{base k:Nat}{neg:Bool}(f:o.op=.binOp (if neg then .neq else .eql) r x y s)(t:aI M.fm x m=true)
  (p:V_ P k r y=true) (u:bn M w e a n) (g:aG M w H) (j:aU base e H (.pY k neg m)=some (v,H1)):di P o a M H w v H1:=by
 have c:=fP t u
 have l:neg=(if neg=true then !false else false):=by cases neg<;>rfl
 have q:(!neg)=(if neg=true then !true else true):=by cases neg<;>rfl
 unfold V_ at p;split at p
 case h_4=>cases p
 all_goals
  rename_i h;simp only[aU] at j
  cases z:m.ev e<;>rw[z] at j c<;>simp only[reduceCtorEq,aab.injEq,ab4.injEq] at j
  all_goals
   obtain⟨rfl,rfl⟩:=j;simp only[aq] at c
 .obtain⟨xs,i,_⟩:=c;rw[l];exact HS f i rfl g (λop=>by unfold eqGuard;cases op<;>simp) rfl rfl (λd=>zAL d h _ _ _)
 .rw[q];exact HS f c rfl g (λop=>by unfold eqGuard;cases op<;>simp) rfl rfl (λd=>zxq d h)
 .rw[q];exact HS f c rfl g (λop=>by unfold eqGuard;cases op<;>simp) rfl rfl (λd=>zxr d h)
 .obtain⟨_,i⟩:=c;rw[l];exact HS f i rfl g (λop=>by unfold eqGuard;cases op<;>simp) rfl rfl (λd=>zq7 d h _)
 .obtain⟨_,b,A,i,_⟩:=c;rw[l];exact HS f i rfl g (λop=>by unfold eqGuard;cases op<;>simp) rfl rfl (λd=>zq7 d h _)
 .obtain⟨_,i⟩:=c;rw[l];exact HS f i rfl g (λop=>by unfold eqGuard;cases op<;>simp) rfl rfl (λd=>zzB d h _)
 .rw[q];exact HS f c rfl g (λop=>by unfold eqGuard;cases op<;>simp) rfl rfl (λd=>zxs d h)
def zx7{mx:Bool}{k:IntKind}:∀{xs:List X} {os:List Operand} {p:Int} {u:V},qn M.fm os xs=true->bn M w e a n->sD e mx k p xs=some u ->
  ((os.map a.eval).foldlM (if mx then Builtin.max2 else Builtin.min2) (.int k p)).run P w=.ok (valOf u) w/\aq M w u (valOf u)
 | [],[],p,u,_,_,h=>by
  simp only[sD,aab.injEq] at h;subst h
  exact⟨by simp[valOf],by simp only[aq,valOf]⟩
 | [],_::_,_,_,c,_,_=>by simp[qn] at c
 | _::_,[],_,_,c,_,_=>by simp[qn] at c
 | x::xs,o::os,p,u,c,g,h=>by
  simp only[qn,aag] at c;simp only[sD] at h;split at h
  case h_2=>cases h
  rename_i m b i;split at h
  case isFalse=>cases h
  rename_i j;subst j;have f:=fP c.1 g;rw[i] at f;simp only[aq] at f;obtain⟨d,l⟩:=zx7 c.2 g h;refine⟨?_,l⟩;rw[aau,List.foldlM_cons,Sem.run_bind,f];cases mx
  .simp only[aaq,if_false] at d |-;simp only[Builtin.min2,Sem.run_pure,Result.andThen_ok];simpa[MD] using d
  .simp only[if_true] at d |-;simp only[Builtin.max2,Sem.run_pure,Result.andThen_ok];simpa[MD] using d
def zMB{mx:Bool}{args:Array Operand}{ts:Array TypeId}{xs:List X}{base:Nat}(d:o.op=.call { callee:=.builtin (if mx then .max else .min),args:=args,argTypes:=ts })(c:qn M.fm args.toList xs=true)
  (i:bn M w e a n) (l:aG M w H) (b:aU base e H (.mm mx xs)=some (v,H1)):di P o a M H w v H1:=by
 simp only[aU] at b;split at b
 case h_2=>cases b
 rename_i x xs;split at b
 case h_2=>cases b
 rename_i k p m;rw[aal] at b;obtain⟨u,q,b⟩:=b;cases b
 cases g:args.toList with
 | nil=>rw[g] at c;simp[qn] at c
 | cons t r =>
  rw[g] at c;simp only[qn,aag] at c;have h:=fP c.1 i;rw[m] at h;simp only[aq] at h;obtain⟨f,s⟩:=zx7 (P:=P) c.2 i q;refine .plain (rv:=valOf v) l ?_ s
  have j:List.map a.eval args.toList=.int k p::r.map a.eval:=by rw[g,aau,h]
  cases mx
  .simp only[aaq,if_false] at f d;simp[execOp,d,resolve,invoke,builtin,Builtin.min_,j,f]
  .simp only[if_true] at f d;simp[execOp,d,resolve,invoke,builtin,Builtin.max_,j,f]
def zFQ{t:TypeId}{x y:Operand}{g h:X}{base:Nat}(m:o.op=.index t x y)(p:aI M.fm x g=true)(q:aI M.fm y h=true)(r:P.underlying t=some .string)
  (j:bn M w e a n) (u:aG M w H) (c:aU base e H (.wY g h)=some (v,H1)):di P o a M H w v H1:=by
 have d:=fP p j;have f:=fP q j;simp only[aU] at c;split at c
 case h_2=>cases c
 rename_i s k i z A;split at c
 case isFalse=>cases c
 rename_i D;split at c
 case h_2=>cases c
 rename_i b l;cases c;rw[z] at d;rw[A] at f;simp only[aq] at d f;refine .plain (rv:=.int .u8 b.toNat) u ?_ (by simp only[aq]);have B:i.toNat<s.length:=(aad.1 l).1
 have hi:0<=i/\i<(ByteArray.mk s.toArray).size:=by rw[zgZ];omega
 have C:(ByteArray.mk s.toArray)[i.toNat]'(by rw[zgZ];exact B)=b:=by have:=(aad.1 l).2;rw[<-this];rfl
 have:=run_index_string (P:=P) w t ⟨s.toArray⟩ k i r;rw[dif_pos hi,C] at this;simp[execOp,m,d,f,this]
def zFR{t:TypeId}{x:Operand}{d:X}{lo hi:Option Operand}{f g:Option X}{base:Nat}(k:o.op=.slice t x lo hi none)(p:aI M.fm x d=true)(q:P.underlying t=some .string)
  (r:oi M.fm lo f=true) (u:oi M.fm hi g=true) (i:bn M w e a n) (y:aG M w H) (b:aU base e H (.sslc d f g)=some (v,H1)):di P o a M H w v H1:=by
 have c:=fP p i;simp only[aU] at b;split at b
 case h_2=>cases b
 rename_i s z;split at b
 case h_2=>cases b
 rename_i l h m A;cases b;rw[z] at c;simp only[aq] at c;refine .plain (rv:=.string ⟨((s.drop l).take (h-l)).toArray⟩) y ?_ (by simp only[aq]);have j:=Rq (P:=P) (w:=w) (isS:=false) (len:=s.length) (cap:=s.length) r u (mx:=none) (smx:=none) rfl i A (aaf _);simp only[abK] at j
 have B:(ByteArray.mk s.toArray).extract l h=⟨((s.drop l).take (h-l)).toArray⟩:=by apply ByteArray.ext;simp[ByteArray.data_extract,abA]
 simp[execOp,k,c,Instr.sliceAt,Instr.slice,run_underlying q,zgZ,j.2.2.2,B]
def mr(P:Program)(t:TypeId):Ky->Bool
 | .sc .int=>match P.underlying t with|some (.int _)=>true|_=>false
 | .sc .bool=>match P.underlying t with|some .bool=>true|_=>false
 | .sc .str=>match P.underlying t with|some .string=>true|_=>false
 | .row a=>uY P 20 t==some a&&fV P t
def M6(P:Program)(d:Nat)(t:TypeId)(ks:List Kd):Prop :=
 ∀(em:Bool) (M:Mm) (w c:World) (a:List V) (xs:List Value) (b:Bool),ai M w a xs->cF ks a a=some b->(Instr.checkKey em d t (pz (fV P t) xs)).run P c=.ok () c
def M7:∀{k:Nat} {t:TypeId} {ks:List Kd} {d:Nat},uY P k t=some ks->k<=d->M6 P d t ks
 | 0,t,ks,d,h,_=>by simp[uY] at h
 | k+1,t,ks,0,h,hd=>by omega
 | k+1,t,ks,d+1,h,hd=>by
  have o:∀t ks,uY P k t=some ks->iw P t ks.length (fV P t)=true/\M6 P d t ks:=λt ks h=>⟨V7 h,M7 h an⟩;simp only[uY] at h;split at h
  case h_2=>cases h
  rename_i J c;split at h
  case isFalse=>cases h
  rename_i K;cases h;clear K;intro em M w n j xs b u l;have W:=ic u
  have e:(∃r,P.underlying t=some (.int r))\/P.underlying t=some .bool\/P.underlying t=some .string->(Instr.checkKey em (d+1) t (pz (fV P t) xs)).run P n=.ok () n:=by
   intro hu;unfold Instr.checkKey
   rcases hu with⟨r,hu⟩|hu|hu<;>simp[run_underlying hu]
  split at c
  .rename_i r hu;exact e (.inl ⟨r,hu⟩)
  .rename_i hu;exact e (.inr (.inl hu))
  .rename_i hu;exact e (.inr (.inr hu))
  .rename_i N hu
   have v:fV P t=true:=by simp[fV,hu,TypeDesc.isRow]
   split at c
   case isFalse=>cases c
   rw[v];simp only[pz,if_true];rw[Instr.checkKey];simp only[Sem.run_bind,run_underlying hu,Result.andThen_ok];rw[<-Array.forIn_toList];obtain⟨off,g⟩:∃off,off=0:=⟨0,rfl⟩
   replace l:cF ks (j.drop off) (j.drop off)=some b:=by rw[g];simpa using l
   have O:off<=xs.length:=an
   rw[<-g] at c;clear g;generalize N.toList=L at c
   induction L generalizing off ks b with
   | nil=>simp
   | cons f L z =>
    simp only[Ko] at c;split at c
    case isFalse=>cases c
    rename_i Q;obtain⟨R,g⟩:=Q;split at c
    case h_2=>cases c
    rename_i a A;split at c
    case h_2=>cases c
    rename_i rs S;cases c;obtain⟨s,B⟩:=o _ _ A;obtain⟨x,y,p,C,rfl⟩:=MX l;obtain⟨D,_⟩:=Kp p;simp only[aae,aao] at D;have E:=Kq (P:=P) (w:=n) (off:=off) (xs:=xs) s an;have F:=B em M w n _ _ x (wE (yj u off) a.length) p;simp only[acg,Sem.run_bind,R,g,ne_eq,not_false_eq_true,if_true,Result.andThen_ok,E,F,Sem.run_pure]
    have q1:cF rs (j.drop (off+a.length)) (j.drop (off+a.length))=some y:=by simpa[abu] using C
    have G:off+a.length<=xs.length:=an
    exact z (ks:=rs) (b:=y) (off:=off+a.length) q1 G S
  .rename_i m T hu
   have v:fV P t=true:=by simp[fV,hu,TypeDesc.isRow]
   split at c
   case h_2=>cases c
   rename_i a A;simp only[aab.injEq] at c;rw[v];obtain⟨s,B⟩:=o _ _ A;have q:=s;unfold iw at q;split at q
   case h_2=>cases q
   rename_i _ i X hi;simp only[aag,beq_iff_eq] at q
   have U:∀H:World,(sizeOf T).run P H=.ok a.length H:=λH=>by simp[sizeOf,typeInfo,hi,q.1]
   simp only[pz,if_true];rw[Instr.checkKey];simp only[Sem.run_bind,run_underlying hu,Result.andThen_ok];simp only[Std.Legacy.Range.forIn_eq_forIn_range',Std.Legacy.Range.size,ab3,Nat.add_one_sub_one,Nat.div_one];obtain⟨off,g⟩:∃off,off=0:=⟨0,rfl⟩
   replace l:cF (aaj m a).flatten (j.drop (off*a.length)) (j.drop (off*a.length))=some b:=by rw[c,g];simpa using l
   have O:off*a.length<=xs.length:=by rw[g];omega
   have I:ab7 0 m=ab7 off m:=by rw[g]
   rw[I];clear g I c hu
   induction m generalizing off b with
   | zero=>simp
   | succ m z =>
    rw[abt,aaw] at l;obtain⟨x,y,p,C,rfl⟩:=MX l;obtain⟨D,_⟩:=Kp p;simp only[aae,aao] at D;have E:=Kq (P:=P) (w:=n) (off:=off*a.length) (xs:=xs) s an;have F:=B em M w n _ _ x (wE (yj u _) a.length) p
    have V:(off+1)*a.length=off*a.length+a.length:=by rw[aaB,aaZ]
    rw[ab_];simp only[acg,Sem.run_bind,U,Result.andThen_ok,E,F,Sem.run_pure]
    have q1:cF (aaj m a).flatten (j.drop ((off+1)*a.length)) (j.drop ((off+1)*a.length))=some y:=by rw[V];simpa[abu] using C
    have G:(off+1)*a.length<=xs.length:=an
    exact z (b:=y) (off:=off+1) q1 G
  .cases c
def Wb{t:TypeId}{ky:Ky}(a:mr P t ky=true):∃d,P.underlying t=some d/\(ky.isRow=true->d.isRow=true):=by
 unfold mr at a;split at a
 .split at a
  .exact⟨_,‹_›,λh=>by cases h⟩
  .cases a
 .split at a
  .exact⟨_,‹_›,λh=>by cases h⟩
  .cases a
 .split at a
  .exact⟨_,‹_›,λh=>by cases h⟩
  .cases a
 .simp only[aag,beq_iff_eq] at a;have b:=a.2;unfold fV at b;split at b
  .rename_i d hd;exact⟨d,hd,λ_=>b⟩
  .cases b
def zvg{t:TypeId}{ks:List Kd}(a:mr P t (.row ks)=true):uY P 20 t=some ks/\fV P t=true:=by simpa[mr] using a
def uZ(M:Mm)(w:World)(es:List (V×V))(ents:List MapEntry)(i:Nat):Option (Nat×V)->Option (Nat×Value)->Prop
 | none,none=>True
 | some (j,u),some (b,x)=>j=b/\i<=j/\(∃p a,es[j-i]?=some p/\ents[j-i]?=some a/\p.2=u/\a.val=x)/\aq M w u x
 | _,_=>False
def zx8{t:TypeId}{ky:Ky}{g:V}{s:Value}(e:mr P t ky=true)(A:ky.isRow=false)(f:aq M w g s):∀{es:List (V×V)} {ents:List MapEntry} {i:Nat} {r:Option (Nat×V)},
  ai M w (es.map (·.1)) (ents.map (·.key))->ai M w (es.map (·.2)) (ents.map (·.val))->j_ ky g es i=some r ->
  ∃d r',P.underlying t=some d/\Instr.findNow d s ents i=some r'/\uZ M w es ents i r r'
 | [],ents,i,r,c,k,h=>by
  have n:=ic c;simp only[aax,aaJ,abe] at n;have:ents=[]:=aa0 n;subst this;simp only[j_,aab.injEq] at h;subst h;obtain⟨d,hd,_⟩:=Wb e
  exact⟨d,none,hd,rfl,trivial⟩
 | p::es,[],i,r,c,k,h=>by
  have n:=ic c
  simp at n
 | p::es,v::ents,i,r,c,k,h=>by
  simp only[aau,ai] at c k;obtain⟨x1,D,E,c,F⟩:=c;obtain⟨x2,G,H,k,I⟩:=k;cases E;cases H
  have B:∀b,j9 ky g p.1=some b->∃d,P.underlying t=some d/\Instr.sameNow d s v.key=some b:=by
   intro b a;unfold mr at e;split at e
   .split at e
    .rename_i X l;refine⟨_,l,?_⟩;unfold j9 at a
     cases m:g<;>rw[m] at a f<;>cases hd:p.1<;>rw[hd] at a c<;>simp only[qI,reduceCtorEq] at a
     simp only[aq] at f c;rw[f,c];split at a
     .rename_i J;simp only[Instr.sameNow,J,if_true];exact a
     .cases a
    .cases e
   .split at e
    .rename_i l;refine⟨_,l,?_⟩;unfold j9 at a
     cases m:g<;>rw[m] at a f<;>cases hd:p.1<;>rw[hd] at a c<;>simp only[qI,reduceCtorEq] at a
     simp only[aq] at f c;rw[f,c];simp only[Instr.sameNow];exact a
    .cases e
   .split at e
    .rename_i l;refine⟨_,l,?_⟩;unfold j9 at a
     cases m:g<;>rw[m] at a f<;>cases hd:p.1<;>rw[hd] at a c<;>simp only[qI,reduceCtorEq] at a
     simp only[aq] at f c;rw[f,c];simp only[Instr.sameNow,beq_toListBytes,ByteArray.toList_mk];exact a
    .cases e
   .cases A
  simp only[j_] at h;split at h
  .rename_i y;obtain⟨d,hd,z⟩:=B true y;simp only[aab.injEq] at h;subst h;refine⟨d,some (i,v.val),hd,by simp only[Instr.findNow,z],rfl,aaf _,⟨p,v,ir,ir,rfl,rfl⟩,k⟩
  .rename_i y;obtain⟨d,hd,z⟩:=B false y;obtain⟨d',r',C,K,o⟩:=zx8 e A f F I h;rw[hd] at C;cases C;refine⟨d,r',hd,by simp only[Instr.findNow,z];exact K,?_⟩
   cases r with
   | none=>cases r'<;>simp only[uZ] at o |-
   | some q =>
    obtain⟨j,u⟩:=q
    cases r' with
    | none=>simp only[uZ] at o
    | some L =>
     obtain⟨Y,x⟩:=L;simp only[uZ] at o |-;obtain⟨N,Z,⟨O,Q,R,S,T,U⟩,W⟩:=o;refine⟨N,an,⟨O,Q,?_,?_,T,U⟩,W⟩
     .rw[show j-i=(j-(i+1))+1 by omega];simpa using R
     .rw[show j-i=(j-(i+1))+1 by omega];simpa using S
  .cases h
def Rv{t:TypeId}{ky:Ky}{c:V}{f:Value}(a:mr P t ky=true)(g:aq M w c f)(i:ky.isRow=true->∃b,j9 ky c c=some b)(em:Bool)(w2:World):(Instr.checkKey em 10000 t f).run P w2=.ok () w2:=by
 cases ky with
 | sc kd =>
  unfold mr at a;split at a
  case h_4=>rename_i e;cases e
  all_goals
   split at a
   .rename_i j;unfold Instr.checkKey;simp[run_underlying j]
   .cases a
 | row n =>
  obtain⟨k,l⟩:=zvg a;obtain⟨b,h⟩:=i rfl
  cases c<;>simp only[j9,reduceCtorEq] at h
  simp only[aq] at g;obtain⟨_,xs,rfl,m⟩:=g;have:=M7 (P:=P) (d:=10000) k an em M w w2 _ xs b m h;rw[l] at this;simpa only[pz,if_true] using this
def zAM{t:TypeId}{ks:List Kd}{cs:List V}{g:Value}(s:uY P 20 t=some ks)(v:fV P t=true)(k:aq M w (.agg cs) g):∀{es:List (V×V)} {ents:List MapEntry} {i:Nat} {r:Option (Nat×V)},
  ai M w (es.map (·.1)) (ents.map (·.key))->ai M w (es.map (·.2)) (ents.map (·.val))->j_ (.row ks) (.agg cs) es i=some r ->
  ∃r',(∀w2,(Instr.findAsking t g ents i).run P w2=.ok r' w2)/\uZ M w es ents i r r'
 | [],ents,i,r,a,c,h=>by
  have e:=ic a;simp only[aax,aaJ,abe] at e;have:ents=[]:=aa0 e;subst this;simp only[j_,aab.injEq] at h;subst h
  exact⟨none,λw2=>by simp[Instr.findAsking],trivial⟩
 | p::es,[],i,r,a,c,h=>by
  have e:=ic a
  simp at e
 | p::es,l::ents,i,r,a,c,h=>by
  simp only[aau,ai] at a c;obtain⟨x1,z,q1,a,A⟩:=a;obtain⟨x2,B,C,c,D⟩:=c;cases q1;cases C
  have y:∀b,j9 (.row ks) (.agg cs) p.1=some b->∀w2,(Op.equal t g l.key).run P w2=.ok b w2:=by
   intro b m w2
   cases E:p.1<;>rw[E] at m a<;>simp only[j9,reduceCtorEq] at m
   simp only[aq] at k a;obtain⟨_,xs,rfl,F⟩:=k;obtain⟨_,G,H,I⟩:=a;rw[H];have n:=V8 (P:=P) (d:=10000) s an M w w2 _ _ xs G b F I m;rw[v] at n;simp only[pz,if_true] at n;exact n
  simp only[j_] at h;split at h
  .rename_i o;simp only[aab.injEq] at h;subst h;exact⟨some (i,l.val),λw2=>by simp[Instr.findAsking,y true o w2],rfl,aaf _,⟨p,l,ir,ir,rfl,rfl⟩,c⟩
  .rename_i o;obtain⟨r',J,f⟩:=zAM s v k A D h;refine⟨r',λw2=>by simp[Instr.findAsking,y false o w2,J w2],?_⟩
   cases r with
   | none=>cases r'<;>simp only[uZ] at f |-
   | some q =>
    obtain⟨j,u⟩:=q
    cases r' with
    | none=>simp only[uZ] at f
    | some K =>
     obtain⟨W,x⟩:=K;simp only[uZ] at f |-;obtain⟨L,X,⟨N,O,Q,R,S,T⟩,U⟩:=f;refine⟨L,an,⟨N,O,?_,?_,S,T⟩,U⟩
     .rw[show j-i=(j-(i+1))+1 by omega];simpa using Q
     .rw[show j-i=(j-(i+1))+1 by omega];simpa using R
  .cases h
def zxt{d:TypeDesc}(h:d.isRow=true)(a b:Value):Instr.sameNow d a b=none:=by cases d<;>simp[TypeDesc.isRow] at h<;>rfl
def zqg{t:TypeId}{d:TypeDesc}{a:Value}{ents:List MapEntry}(hd:P.underlying t=some d)(h:Instr.findNow d a ents 0=none)(w2:World):(Instr.findKey t a ents).run P w2=(Instr.findAsking t a ents).run P w2:=by simp[Instr.findKey,run_underlying hd,h]
def Kr{t:TypeId}{ky:Ky}{c:V}{k:Value}{es:List (V×V)}{ents:List MapEntry}{r:Option (Nat×V)}(g:mr P t ky=true)(m:aq M w c k)
  (p:ky.isRow=true->∃b,j9 ky c c=some b) (n:ai M w (es.map (·.1)) (ents.map (·.key))) (o:ai M w (es.map (·.2)) (ents.map (·.val))) (h:j_ ky c es 0=some r) :
  ∃r',(∀w,(Instr.findKey t k ents).run P w=.ok r' w)/\uZ M w es ents 0 r r':=by
 cases e:ky.isRow
 .obtain⟨d,r',hd,f,i⟩:=zx8 g e m n o h;exact⟨r',λw=>MapKept.run_findKey hd f,i⟩
 .obtain⟨d,hd,q⟩:=Wb g;have s:=q e;obtain⟨b,u⟩:=p e
  cases ky with
  | sc kd=>cases e
  | row z =>
   obtain⟨v,x⟩:=zvg g
   cases c<;>simp only[j9,reduceCtorEq] at u
   obtain⟨r',f,i⟩:=zAM v x m n o h;refine⟨r',λj=>?_,i⟩
   cases ents with
   | nil =>
    have y:=f j;rw[MapKept.run_findKey (P:=P) (w:=j) (l:=[]) (a:=none) hd rfl]
    simpa[Instr.findAsking] using y
   | cons A ents =>
    rw[zqg hd (by simp only[Instr.findNow,zxt s])];exact f j
def mapOf?(P:Program)(t:TypeId):Option (TypeId×TypeId) :=
 match P.underlying t with
 | some (.map k a)=>some (k,a)
 | _=>none
def mapOf?_some{t k a:TypeId}(h:mapOf? P t=some (k,a)):P.underlying t=some (.map k a):=by
 unfold mapOf? at h;split at h
 .rename_i b;cases h;exact b
 .cases h
def zDh{t:TypeId}{base s:Nat}(c:o.op=.makeMap t none)(d:aG M w H)(b:aU base e H (.qX s)=some (v,H1)):di P o a M H w v H1:=by
 simp only[aU] at b;split at b
 case isFalse=>cases b
 rename_i f;cases b
 obtain⟨st,g,r⟩:=MH (ob:=.map #[] 0) (blk0:=.map []) d f rfl λj k=>by
  simp only[aJ];refine⟨by simp[Mm.i_],#[],?_,by simp only[aax,ai],by simp only[aax,ai],λi x h=>by simp at h⟩;simp only[Mm.i_,if_true];exact heap_alloc_new w _
 refine⟨.value (.map (some w.heap.size)),_,_,?_,?_,st,g,r⟩
 .simp only[execOp,c,abK,Sem.run_bind,run_makeMap,Result.andThen_ok,Sem.run_pure]
 .simp only[aq,Mm.i_,decide_true,aaI,if_true,true_and]
def Ku(P:Program)(t:TypeId)(z:V):Bool :=
 match P.info? t with
 | some i=>match i.zero with
  | some a=>ua a z
  | none=>false
 | none=>false
def zFS{t F s:TypeId}{x y:Operand}{R l:X}{base:Nat}{ky:Ky}{j:Bool}{z:V}(G:o.op=.lookup t x y j)(hx:aI M.fm x R=true)(hy:aI M.fm y l=true)
  (oq:mapOf? P t=some (F,s)) (r:mr P F ky=true) (m:Ku P s z=true) (S:bn M w e a n) (A:aG M w H) (f:aU base e H (.tY ky j z R l)=some (v,H1)):di P o a M H w v H1:=by
 have I:=mapOf?_some oq;have k:=fP hx S;have B:=fP hy S
 obtain⟨i,c,hi,J,We⟩:∃i c,P.info? s=some i/\i.zero=some c/\ua c z=true:=by
  unfold Ku at m;split at m
  .rename_i i hi;split at m
   .rename_i c J;exact⟨i,c,hi,J,m⟩
   .cases m
  .cases m
 have g:∀w,(zeroValue s).run P w=.ok c w:=λw=>by simp[zeroValue,typeInfo,hi,J]
 have C:aq M w z c:=Rh We;simp only[aU] at f;split at f
 case isTrue=>cases f
 rename_i vD
 have D:ky.isRow=true->∃b,j9 ky (l.ev e) (l.ev e)=some b:=λh=>by
  cases hq:j9 ky (l.ev e) (l.ev e) with
  | none=>exact absurd ⟨h,hq⟩ vD
  | some b=>exact⟨b,rfl⟩
 split at f
 .rename_i id K;split at f
  case h_2=>cases f
  rename_i es hb;rw[K] at k;simp only[aq] at k;have T:=A.rel id _ hb;simp only[aJ] at T;obtain⟨_,ents,hh,U,W,g7⟩:=T;have Y:=MapKept.run_getObj_map (P:=P) hh;have E:=λem=>Rv r B D em w;split at f
  .rename_i q u L;obtain⟨N,O,p⟩:=Kr r B D U W L
   cases N with
   | none=>simp only[uZ] at p
   | some Z =>
    obtain⟨j',Q⟩:=Z;simp only[uZ] at p;cases f;refine .plain (rv:=if j then .tuple #[Q,.bool true] else Q) A ?_ ?_
    .simp only[execOp,G,k.2,Instr.lookup,Sem.run_bind,run_underlying I,Result.andThen_ok,Y,Sem.run_pure,E,O]
    .cases j
     .simpa using p.2.2.2
     .simp only[if_true,aq];exact⟨[Q,.bool true],rfl,by simp only[ai];exact⟨_,_,rfl,p.2.2.2,_,_,rfl,by simp only[aq],rfl⟩⟩
  .rename_i L;obtain⟨N,O,p⟩:=Kr r B D U W L
   cases N with
   | some Z=>simp only[uZ] at p
   | none =>
    cases f;refine .plain (rv:=if j then .tuple #[c,.bool false] else c) A ?_ ?_
    .simp only[execOp,G,k.2,Instr.lookup,Sem.run_bind,run_underlying I,Result.andThen_ok,Y,Sem.run_pure,E,O,g]
    .cases j
     .simpa using C
     .simp only[if_true,aq];exact⟨[c,.bool false],rfl,by simp only[ai];exact⟨_,_,rfl,C,_,_,rfl,by simp only[aq],rfl⟩⟩
  .cases f
 .rename_i K;cases f;rw[K] at k;simp only[aq] at k;have E:=λem=>Rv r B D em w
  have Wf:∀w,(Instr.findKey F (a.eval y) []).run P w=.ok none w:=λw=>by
   obtain⟨d,hd,_⟩:=Wb r;exact MapKept.run_findKey hd rfl
  refine .plain (rv:=if j then .tuple #[c,.bool false] else c) A ?_ ?_
  .simp only[execOp,G,k,Instr.lookup,Sem.run_bind,run_underlying I,Result.andThen_ok,Sem.run_pure,E,Wf,g]
  .cases j
   .simpa using C
   .simp only[if_true,aq];exact⟨[c,.bool false],rfl,by simp only[ai];exact⟨_,_,rfl,C,_,_,rfl,by simp only[aq],rfl⟩⟩
 .cases f
def zvh{c d:V}{x e:Value}{k:Kd}(h:qI k c d=some true)(a:aq M w c x)(b:aq M w d e):Instr.sameBits 10000 e x=true:=by
 cases k<;>cases c<;>cases d<;>simp only[qI,reduceCtorEq,aab.injEq] at h
 .split at h
  .rename_i f;subst f;simp at h;subst h;simp only[aq] at a b;subst a;subst b;simp[Instr.sameBits]
  .cases h
 .simp at h;subst h;simp only[aq] at a b;subst a;subst b;simp[Instr.sameBits]
 .simp at h;subst h;simp only[aq] at a b;subst a;subst b;simp only[Instr.sameBits,beq_toListBytes,beq_self_eq_true]
def zxu{c d:V}{x e:Value}{k:Kd}(n:Nat)(h:qI k c d=some true)(a:aq M w c x)(b:aq M w d e):Instr.sameBits n e x=true:=by
 cases k<;>cases c<;>cases d<;>simp only[qI,reduceCtorEq,aab.injEq] at h
 .split at h
  .rename_i f;subst f;simp at h;subst h;simp only[aq] at a b;subst a;subst b;simp[Instr.sameBits]
  .cases h
 .simp at h;subst h;simp only[aq] at a b;subst a;subst b;simp[Instr.sameBits]
 .simp at h;subst h;simp only[aq] at a b;subst a;subst b;simp only[Instr.sameBits,beq_toListBytes,beq_self_eq_true]
def zn1(n:Nat):∀{ks:List Kd} {cs ds:List V} {xs ys:List Value},cF ks cs ds=some true->ai M w cs xs->ai M w ds ys->ys.length=xs.length/\((ys.zip xs).all fun(p:Value×Value)=>Instr.sameBits n p.1 p.2)=true
 | [],[],[],xs,ys,_,a,b=>by
  simp only[ai] at a b;subst a;subst b
  exact⟨rfl,rfl⟩
 | [],[],_::_,_,_,h,_,_=>by simp[cF] at h
 | [],_::_,_,_,_,h,_,_=>by simp[cF] at h
 | _::_,[],_,_,_,h,_,_=>by simp[cF] at h
 | _::_,_::_,[],_,_,h,_,_=>by simp[cF] at h
 | k::ks,c::cs,d::ds,xs,ys,h,a,b=>by
  simp only[ai] at a b;obtain⟨x,o,rfl,e,a⟩:=a;obtain⟨y,f,rfl,g,b⟩:=b;simp only[cF] at h;split at h
  case h_2=>cases h
  rename_i u v i j;simp only[aab.injEq,aag] at h;obtain⟨rfl,rfl⟩:=h;obtain⟨l,m⟩:=zn1 n j a b;exact⟨by simp[l],by simp only[List.zip_cons_cons,List.all_cons,aag];exact⟨zxu n i e g,m⟩⟩
def zpR{ky:Ky}{a b:V}{x e:Value}(h:j9 ky a b=some true)(c:aq M w a x)(d:aq M w b e):Instr.sameBits 10000 e x=true:=by
 cases ky with
 | sc kd=>exact zvh (k:=kd) h c d
 | row l =>
  cases a<;>cases b<;>simp only[j9,reduceCtorEq] at h
  simp only[aq] at c d;obtain⟨_,xs,rfl,f⟩:=c;obtain⟨_,m,rfl,g⟩:=d;obtain⟨i,j⟩:=zn1 9999 h f g;rw[Instr.sameBits];simp only[abz,i,beq_self_eq_true,aci];exact j
def Wh{ky:Ky}{a:V}:∀{es:List (V×V)} {i j:Nat} {u:V},j_ ky a es i=some (some (j,u))->i<=j/\∃p,es[j-i]?=some p/\p.2=u/\j9 ky a p.1=some true
 | [],i,j,u,h=>by simp[j_] at h
 | p::es,i,j,u,h=>by
  simp only[j_] at h;split at h
  .rename_i b;simp only[aab.injEq,ab4.injEq] at h;obtain⟨rfl,rfl⟩:=h;exact⟨aaf _,p,ir,rfl,b⟩
  .obtain⟨e,q,c,d⟩:=Wh h;refine⟨an,q,?_,d⟩;rw[show j-i=(j-(i+1))+1 by omega];simpa using c
  .cases h
def M8{id:Nat}{es fs:List (V×V)}{ents:Array MapEntry}(b:aG M w H)(c:H[id]?=some (some (.map es)))
  (g:ai M w (fs.map (·.1)) (ents.toList.map (·.key))) (h:ai M w (fs.map (·.2)) (ents.toList.map (·.val))) (k:∀(i:Nat) (x:MapEntry),ents[i]?=some x->x.born=i) :
  eI M H w (M.cJ (M.j id) 0) (H.set id (some (.map fs))) { w with heap:=w.heap.setIfInBounds (M.j id) (.map ents fs.length) }/\fe M (M.cJ (M.j id) 0) H.length /\
   aG (M.cJ (M.j id) 0) { w with heap:=w.heap.setIfInBounds (M.j id) (.map ents fs.length) } (H.set id (some (.map fs))):=by
 have d:=b.rel id _ c;simp only[aJ] at d;obtain⟨l,n,m,_⟩:=d;have e:=MapKept.heap_set (o':=.map ents fs.length) m;refine Rb b c rfl rfl l 0 rfl rfl rfl ir e.2 λa f=>?_;simp only[aJ];exact⟨by simp[Mm.cJ],ents,e.1,ai.step a b f g,ai.step a b f h,k⟩
def Kv{cs:List V}{xs:List Value}(h:ai M w cs xs){i:Nat}{c:V}{x:Value}(g:aq M w c x):ai M w (cs.set i c) (xs.set i x):=by
 have b:=ic h;refine AD (by simp[b]) λj d y hd a=>?_;rw[aaW] at hd a
 by_cases e:i=j
 .subst e;simp only[if_true] at hd a;split at hd
  .rename_i k;rw[if_pos (by rw[b];exact k)] at a;cases hd;cases a;exact g
  .cases hd
 .rw[if_neg e] at hd a;obtain⟨m,f,l⟩:=og h hd;rw[a] at f;cases f;exact l
def zx9{t W el:TypeId}{x y z:Operand}{Y g sz:X}{base:Nat}{ky:Ky}(B:o.op=.insert t x y z\/o.op=.mapUpdate t x y z)(d:aI M.fm x Y=true)(hy:aI M.fm y g=true)(hz:aI M.fm z sz=true)
  (oq:mapOf? P t=some (W,el)) (I:mr P W ky=true) (J:bn M w e a n) (K:aG M w H) (f:aU base e H (.mput ky Y g sz)=some (v,H1)):di P o a M H w v H1:=by
 have Z:=mapOf?_some oq;have C:=fP d J;have j:=fP hy J;have Kw:=fP hz J;simp only[aU] at f;split at f
 case h_2=>cases f
 rename_i id hp;split at f
 case isTrue=>cases f
 rename_i jg;split at f
 case h_2=>cases f
 rename_i D L;rw[hp] at C;simp only[aq] at C;have cU:=K.rel id _ L;simp only[aJ] at cU;obtain⟨_,ents,hh,l,E,N⟩:=cU
 have m:ents.size=D.length:=by have:=ic l;simpa using this
 have gQ:=MapKept.run_getObj_map (P:=P) hh
 have O:ky.isRow=true->∃b,j9 ky (g.ev e) (g.ev e)=some b:=λ_=>by
  cases hq:j9 ky (g.ev e) (g.ev e) with
  | none=>exact absurd (.inl hq) jg
  | some b=>exact⟨b,rfl⟩
 have mM:=λem=>Rv I j O em w;have bY:=λob=>MapKept.run_setObj_map (P:=P) ob hh
 have q:∀w',(Instr.mapUpdate t (a.eval x) (a.eval y) (a.eval z)).run P w=.ok () w'->(execOp a.eval o).run P w=.ok .skip w':=by
  intro w' h
  rcases B with B|B<;>simp only[execOp,B,Sem.run_bind,h,Result.andThen_ok,Sem.run_pure]
 split at f
 .rename_i i u F;obtain⟨Q,R,s⟩:=Kr I j O l E F
  cases Q with
  | none=>simp only[uZ] at s
  | some q' =>
   obtain⟨j',x'⟩:=q';simp only[uZ] at s;obtain⟨rfl,_,⟨p,kO,vE,G,_,_⟩,_⟩:=s;obtain⟨_,p',S,_,HV⟩:=Wh F;rw[S] at vE;cases vE;simp only[ab3] at S G;cases f
   have vF:aq M w p.1 kO.key:=by obtain⟨y2,h2,h3⟩:=og l (i:=i) (c:=p.1) (by rw[aap,S];rfl);rw[aap,G] at h2;cases h2;exact h3
   have Wi:=zpR HV j vF
   have T:ents[i]?=some kO:=by rw[<-aah];exact G
   have U:(ents.modify i λen=>{ en with key:=a.eval y,val:=a.eval z }).toList=ents.toList.set i { kO with key:=a.eval y,val:=a.eval z }:=by
    apply ab6;intro k;rw[aah,aa3,aaW]
    by_cases A:i=k
    .subst A;have ah:i<ents.toList.length:=(aad.1 G).1;rw[if_pos rfl,if_pos rfl,if_pos ah,T];rfl
    .rw[if_neg A,if_neg A,aah]
   obtain⟨st,V,r⟩:=M8 (fs:=D.set i (g.ev e,sz.ev e)) (ents:=ents.modify i λen=>{ en with key:=a.eval y,val:=a.eval z }) K L
    (by rw[U,aay,aay];exact Kv l j) (by rw[U,aay,aay];exact Kv E Kw)
    (λk x d=>by
     rw[<-aah,U,aaW] at d;split at d
     .rename_i A;subst A;split at d
      .cases d;exact N _ kO T
      .cases d
     .rw[aah] at d;exact N k x d)
   refine⟨.skip,_,_,q _ ?_,rfl,st,V,r⟩;simp only[Instr.mapUpdate,C.2,Sem.run_bind,run_underlying Z,Result.andThen_ok,gQ,mM,R,Instr.keyThatStays,T,aaY,aca,Wi,if_true,Sem.run_pure,bY,abN]
 .rename_i F;obtain⟨Q,R,s⟩:=Kr I j O l E F
  cases Q with
  | some q'=>simp only[uZ] at s
  | none =>
   cases f
   obtain⟨st,V,r⟩:=M8 (fs:=D++[(g.ev e,sz.ev e)]) (ents:=ents.push { key:=a.eval y,val:=a.eval z,born:=D.length }) K L
    (by rw[aaO,abl,aaO];exact ze l (by simp only[aau,aax,ai];exact⟨_,_,rfl,j,rfl⟩))
    (by rw[aaO,abl,aaO];exact ze E (by simp only[aau,aax,ai];exact⟨_,_,rfl,Kw,rfl⟩))
    (λk x d=>by
     rw[abZ] at d;split at d
     .rename_i DP;cases d;rw[<-m];exact DP.symm
     .exact N k x d)
   refine⟨.skip,_,_,q _ ?_,rfl,st,V,r⟩;simp only[Instr.mapUpdate,C.2,Sem.run_bind,run_underlying Z,Result.andThen_ok,gQ,mM,R,bY,aar,aaX,abe]
 .cases f
def zHt{t:TypeId}{x:Operand}{d:X}{base s:Nat}(g:o.op=.range t x)(h:aI M.fm x d=true)(i:P.underlying t=some .string)(j:bn M w e a n)(k:aG M w H)
  (b:aU base e H (.FG s d)=some (v,H1)):di P o a M H w v H1:=by
 have c:=fP h j;simp only[aU] at b;split at b
 case h_2=>cases b
 rename_i f l;split at b
 case isFalse=>cases b
 rename_i m;cases b;rw[l] at c;simp only[aq] at c
 obtain⟨st,p,r⟩:=MH (ob:=.stringIter ⟨f.toArray⟩ 0) (blk0:=.dF f 0) k m rfl λq u=>by
  simp only[aJ];refine⟨by simp[Mm.i_],?_⟩;simp only[Mm.i_,if_true];exact heap_alloc_new w _
 refine⟨.value (.pointer (some ⟨w.heap.size,0,none⟩)),_,_,?_,?_,st,p,r⟩
 .simp[execOp,g,c,Instr.range,run_underlying i]
 .simp only[aq,Mm.i_,decide_true,aaI,if_true,true_and]
def zHu{x:Operand}{k:X}{base:Nat}(l:o.op=.next x true)(s:aI M.fm x k=true)(t:bn M w e a n)(f:aG M w H)
  (c:aU base e H (.yi k)=some (v,H1)):di P o a M H w v H1:=by
 have d:=fP s t;simp only[aU] at c;split at c
 case h_2=>cases c
 rename_i id u;split at c
 case h_2=>cases c
 rename_i b pos m;rw[u] at d;simp only[aq] at d;have p:=f.rel id _ m;simp only[aJ] at p;obtain⟨y,g⟩:=p;split at c
 .rename_i h;cases c;have i:=Lib.run_next_any_at (P:=P) w (M.j id) ⟨b.toArray⟩ pos o.type g (by rw[zgZ];exact h);have q:=MapKept.heap_set (o':=.stringIter ⟨b.toArray⟩ (pos+(Utf8.decode ⟨b.toArray⟩ pos).2)) g
  obtain⟨st,z,r⟩:=Rb (blk1:=.dF b (pos+(Utf8.decode ⟨b.toArray⟩ pos).2)) (w':=w.iterAt (M.j id) ⟨b.toArray⟩ (pos+(Utf8.decode ⟨b.toArray⟩ pos).2)) f m rfl rfl y 0 rfl rfl rfl (by simp[World.iterAt]) q.2 λA B=>by
   simp only[aJ];exact⟨by simp[Mm.cJ],q.1⟩
  refine⟨.value (.tuple #[.bool true,.int .i64 pos,.int .i32 (Utf8.decode ⟨b.toArray⟩ pos).1]),_,_,?_,?_,st,z,r⟩
  .simp only[execOp,l,d.2,Sem.run_bind,i,Result.andThen_ok,Sem.run_pure]
  .simp only[aq];exact⟨[.bool true,.int .i64 pos,.int .i32 (Utf8.decode ⟨b.toArray⟩ pos).1],rfl,by simp[ai,aq]⟩
 .rename_i h;cases c;have i:=Lib.run_next_end_at (P:=P) w (M.j id) ⟨b.toArray⟩ pos o.type g (by rw[zgZ];exact h);refine .plain (rv:=.tuple #[.bool false]) f ?_ ?_
  .simp only[execOp,l,d.2,Sem.run_bind,i,Result.andThen_ok,Sem.run_pure]
  .simp only[aq];exact⟨[.bool false],rfl,by simp[ai,aq]⟩
def zpS{ents:Array MapEntry}{i:Nat}{f:MapEntry->MapEntry}{a:MapEntry}(h:ents[i]?=some a):(ents.modify i f).toList=ents.toList.set i (f a):=by
 have c:ents.toList[i]?=some a:=by rw[aah];exact h
 apply ab6;intro k;rw[aah,aa3,aaW]
 by_cases b:i=k
 .subst b;have d:i<ents.toList.length:=(aad.1 c).1;rw[if_pos rfl,if_pos rfl,if_pos d,h];rfl
 .rw[if_neg b,if_neg b,aah]
def zvi{ents:Array MapEntry}{i:Nat}{b c:MapEntry}{d:Array MapEntry}(f:d.toList=ents.toList.set i c)(g:ents[i]?=some b)(h:c.born=b.born)(e:∀(i:Nat) (x:MapEntry),ents[i]?=some x->x.born=i) :
  ∀(k:Nat) (x:MapEntry),d[k]?=some x->x.born=k:=λk x a=>by
 rw[<-aah,f,aaW] at a;split at a
 .rename_i j;subst j;split at a
  .cases a;rw[h];exact e _ b g
  .cases a
 .rw[aah] at a;exact e k x a
def zFT{t kt K:TypeId}{x y:Operand}{sx j:X}{base:Nat}{ky:Ky}{z:V}(ho:o.op=.mapEntry t x y)(m:aI M.fm x sx=true)(hy:aI M.fm y j=true)
  (oq:mapOf? P t=some (kt,K)) (S:mr P kt ky=true) (q:Ku P K z=true) (ht:bn M w e a n) (C:aG M w H) (d:aU base e H (.vl ky z sx j)=some (v,H1)):di P o a M H w v H1:=by
 have hu:=mapOf?_some oq;have L:=fP m ht;have s:=fP hy ht
 obtain⟨i,g,hi,T,We⟩:∃i g,P.info? K=some i/\i.zero=some g/\ua g z=true:=by
  unfold Ku at q;split at q
  .rename_i i hi;split at q
   .rename_i g T;exact⟨i,g,hi,T,q⟩
   .cases q
  .cases q
 have l:∀w,(zeroValue K).run P w=.ok g w:=λw=>by simp[zeroValue,typeInfo,hi,T]
 have DO:aq M w z g:=Rh We;simp only[aU] at d;split at d
 case h_2=>cases d
 rename_i id hp;split at d
 case isTrue=>cases d
 rename_i jg;split at d
 case h_2=>cases d
 rename_i A U;rw[hp] at L;simp only[aq] at L;have cU:=C.rel id _ U;simp only[aJ] at cU;obtain⟨_,ents,hh,B,D,W⟩:=cU
 have E:ents.size=A.length:=by have:=ic B;simpa using this
 have gQ:=MapKept.run_getObj_map (P:=P) hh
 have Y:ky.isRow=true->∃b,j9 ky (j.ev e) (j.ev e)=some b:=λ_=>by
  cases hq:j9 ky (j.ev e) (j.ev e) with
  | none=>exact absurd hq jg
  | some b=>exact⟨b,rfl⟩
 have mM:=λem=>Rv S s Y em w;have bY:=λob=>MapKept.run_setObj_map (P:=P) ob hh
 have F:∀r w',(Instr.mapEntry t (a.eval x) (a.eval y)).run P w=.ok r w'->(execOp a.eval o).run P w=.ok (.value r) w':=by intro r w' h;simp only[execOp,ho,Sem.run_bind,h,Result.andThen_ok,Sem.run_pure]
 split at d
 .rename_i i u N;obtain⟨Z,ll,G⟩:=Kr S s Y B D N
  cases Z with
  | none=>simp only[uZ] at G
  | some q' =>
   obtain⟨j',x'⟩:=q';simp only[uZ] at G;obtain⟨rfl,_,⟨p,kO,vE,O,_,_⟩,ha⟩:=G;obtain⟨_,p',Q,mb,HV⟩:=Wh N;rw[Q] at vE;cases vE;simp only[ab3] at Q O;cases d
   have vF:aq M w p.1 kO.key:=by obtain⟨y2,I,h3⟩:=og B (i:=i) (c:=p.1) (by rw[aap,Q];rfl);rw[aap,O] at I;cases I;exact h3
   have M9:aq M w p.2 kO.val:=by obtain⟨y2,I,h3⟩:=og D (i:=i) (c:=p.2) (by rw[aap,Q];rfl);rw[aap,O] at I;cases I;exact h3
   have Wi:=zpR HV s vF
   have R:ents[i]?=some kO:=by rw[<-aah];exact O
   have ri:=zpS (f:=λen=>{ en with key:=a.eval y }) R
   have hc:(ents.toList.set i { kO with key:=a.eval y }).map (·.val)=(ents.toList.map (·.val)).set i kO.val:=by rw[aay]
   obtain⟨st,J,r⟩:=M8 (fs:=A.set i (j.ev e,u)) (ents:=ents.modify i λen=>{ en with key:=a.eval y }) C U
    (by rw[ri,aay,aay];exact Kv B s) (by rw[ri,hc,aay,<-mb];exact Kv D M9)
    (zvi ri R rfl W)
   have Rw:=W i kO R;refine⟨.value (.tuple #[x',.int .i64 (i:Int)]),_,_,F _ _ ?_,?_,st,J,r⟩
   .simp only[Instr.mapEntry,L.2,Sem.run_bind,run_underlying hu,Result.andThen_ok,gQ,mM,ll,Instr.keyThatStays,R,aaY,aca,Wi,if_true,Sem.run_pure,bY,abN,Rw,goInt]
   .simp only[aq];refine⟨[x',.int .i64 (i:Int)],rfl,?_⟩;simp only[ai];exact⟨_,_,rfl,aq.step st C J ha,_,_,rfl,by simp only[aq],rfl⟩
 .rename_i N;obtain⟨Z,ll,G⟩:=Kr S s Y B D N
  cases Z with
  | some q'=>simp only[uZ] at G
  | none =>
   cases d
   obtain⟨st,J,r⟩:=M8 (fs:=A++[(j.ev e,z)]) (ents:=ents.push { key:=a.eval y,val:=g,born:=A.length }) C U
    (by rw[aaO,abl,aaO];exact ze B (by simp only[aau,aax,ai];exact⟨_,_,rfl,s,rfl⟩))
    (by rw[aaO,abl,aaO];exact ze D (by simp only[aau,aax,ai];exact⟨_,_,rfl,DO,rfl⟩))
    (λk x m=>by
     rw[abZ] at m;split at m
     .rename_i DP;cases m;rw[<-E];exact DP.symm
     .exact W k x m)
   refine⟨.value (.tuple #[g,.int .i64 (A.length:Int)]),_,_,F _ _ ?_,?_,st,J,r⟩
   .simp only[Instr.mapEntry,L.2,Sem.run_bind,run_underlying hu,Result.andThen_ok,gQ,mM,ll,l,bY,aar,aaX,abe,Sem.run_pure,goInt]
   .simp only[aq];refine⟨[g,.int .i64 (A.length:Int)],rfl,?_⟩;simp only[ai];exact⟨_,_,rfl,aq.step st C J DO,_,_,rfl,by simp only[aq],rfl⟩
 .cases d
def zvj{ents:Array MapEntry}{i:Nat}(hi:i<ents.size)(a:∀(i:Nat) (x:MapEntry),ents[i]?=some x->x.born=i):ents.findIdx? (λb=>(b.born:Int)==(i:Int))=some i:=by rw[Array.findIdx?_eq_some_iff_getElem];refine⟨hi,by simp[a i _ (aaG hi)],λj c=>?_⟩;have:=a j _ (aaG (show j<ents.size by omega));simp[this];omega
def zHv{t:TypeId}{x y z:Operand}{A B sz:X}{base:Nat}(L:o.op=.entryStore t x y z)(N:aI M.fm x A=true)(O:aI M.fm y B=true)(Q:aI M.fm z sz=true)
  (g:bn M w e a n) (C:aG M w H) (b:aU base e H (.FE A B sz)=some (v,H1)):di P o a M H w v H1:=by
 have h:=fP N g;have j:=fP O g;have R:=fP Q g;simp only[aU] at b;split at b
 case h_2=>cases b
 rename_i id k i S T;split at b
 case h_2=>cases b
 rename_i D E;split at b
 case isFalse=>cases b
 rename_i U;split at b
 case h_2=>cases b
 rename_i p l;cases b;obtain⟨i,rfl⟩:=Int.eq_ofNat_of_zero_le U;simp only[Int.toNat_natCast] at l |-;rw[S] at h;rw[T] at j;simp only[aq] at h j;have F:=C.rel id _ E;simp only[aJ] at F;obtain⟨_,ents,G,m,V,I⟩:=F
 have d:ents.size=D.length:=by have:=ic m;simpa using this
 have J:i<ents.size:=by rw[d];exact(aad.1 l).1
 obtain⟨kO,q⟩:∃kO,ents[i]?=some kO:=⟨_,aaG J⟩
 have W:ents.toList[i]?=some kO:=by rw[aah];exact q
 have Y:=MapKept.run_getObj_map (P:=P) G;have Z:=λob=>MapKept.run_setObj_map (P:=P) ob G
 have vF:aq M w p.1 kO.key:=by obtain⟨y2,K,h3⟩:=og m (i:=i) (c:=p.1) (by rw[aap,l];rfl);rw[aap,W] at K;cases K;exact h3
 have s:=zpS (f:=λen=>{ en with val:=a.eval z }) q
 have u:(ents.toList.set i { kO with val:=a.eval z }).map (·.key)=(ents.toList.map (·.key)).set i kO.key:=by rw[aay]
 obtain⟨st,ii,r⟩:=M8 (fs:=D.set i (p.1,sz.ev e)) (ents:=ents.modify i λen=>{ en with val:=a.eval z }) C E
  (by rw[s,u,aay];exact Kv m vF) (by rw[s,aay,aay];exact Kv V R)
  (zvi s q rfl I)
 refine⟨.skip,_,_,?_,rfl,st,ii,r⟩;have hf:=zvj J I;simp only[execOp,L,Instr.entryStore,h.2,j,Sem.run_bind,Y,Result.andThen_ok,asInt,asIntOf,Sem.run_pure,hf,Z,abN]
def aq.jA{c:V}{x:Value}(h:aq M w c x):aq M w c.jA x:=by
 cases c<;>first|exact h|skip
 simp only[V.jA,aq] at h |-;obtain⟨p,a,b,d,e,f,_⟩:=h;exact⟨p,a,b,d,e,f,trivial⟩
def ai.ui{g:V->V}(a:∀{c:V} {x:Value},aq M w c x->aq M w (g c) x):∀{cs:List V} {xs:List Value},ai M w cs xs->ai M w (cs.map g) xs
 | [],_,h=>by simpa only[ai,aax] using h
 | c::cs,_,h=>by
  simp only[ai,aau] at h |-;obtain⟨x,b,rfl,d,e⟩:=h;exact⟨x,b,rfl,a d,ai.ui a e⟩
def V.AZ(c:V):c.jA.fB=c.fB:=by cases c<;>rfl
def aq.FJ{c:V}{x:Value}(h:aq M w c x):aq M w c.FJ x:=by
 cases c<;>first|exact h|exact aq.jA h|skip
 simp only[V.FJ,aq] at h |-;obtain⟨p,xs,a,b⟩:=h;refine⟨?_,xs,a,ai.ui aq.jA b⟩;intro c e;obtain⟨d,hd,rfl⟩:=aa1.1 e;rw[V.AZ];exact p d hd
end Go.Ev
