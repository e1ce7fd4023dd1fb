/- Canonical values of a simplified reading of Go functions, and how they lie in the model's memory. -/
import Derived.WalkKit
import Derived.Orders
import Derived.Deep.MidRow
import Derived.Deep.AppendSrc
import Derived.Deep.Upon
import Derived.Laws.Strings
import Derived.Laws.Concat
import Derived.Laws.StructEq
import Derived.Laws.RangeAny
import Derived.ChangeKeysEq
import Derived.MapKept
import Derived.Lib.OthersKept
import Derived.Carry
set_option linter.defProp false
set_option linter.unusedSimpArgs false
set_option linter.unusedVariables false
open Option renaming some→aaa,map_eq_some_iff→aaq,isSome_iff_exists→aaS,map_some→aaZ,map_none→abD,getD_some→ab7,map→ab9
open List renaming getElem?_eq_some_iff→aab,length_take→aad,mem_of_mem_take→aam,replicate→aan,getElem?_set_self→aap,mem_of_mem_drop→aat,length_drop→aau,getElem?_map→aav,length_append→aax,eq_of_mem_replicate→aay,map_cons→aaA,getElem?_take→aaB,flatten_cons→aaD,map_nil→aaE,map_set→aaF,getElem?_append_left→aaJ,length_map→aaQ,map_append→aaU,flatten_nil→aaV,getElem?_append_right→aaW,getElem?_set→aaX,length_cons→aaY,eq_nil_of_length_eq_zero→aa2,mem_map→aa3,take_append_drop→aa4,mem_flatten→aa6,flatten_append→aa7,mem_append→aa8,length_nil→aa9,getElem?_drop→aba,length_replicate→abd,replicate_succ→abi,drop_drop→abk,append_assoc→abm,size_toArray→abn,extract_eq_take_drop→abq,mem_or_eq_of_mem_set→abr,map_map→abt,getElem?_eq_getElem→abv,getElem_mem→abx,all_eq_true→abA,getElem?_replicate→abB,length_set→abE,take_of_length_le→abG,length_eq_one_iff→abH,getElem?_eq_none→abI,getElem?_toArray→abJ,getElem?_of_mem→abK,getElem?_range→abO,ext_getElem?→ab1,range'→ab3,cons_append→ab4,range'_succ→ab6,forIn_cons→acb,mem_cons→acg
open Nat renaming le_refl→aae,add_mul→aaH,lt_of_lt_of_le→aaI,mul_le_mul_right→aaT,one_mul→aa0,le_trans→aa_,add_zero→abe,min_eq_left→abh,zero_add→abz,le_mul_of_pos_right→abC,zero_le→abF,mul_div_cancel→abS,sub_zero→abU,mul_one→aci,mod_lt→acj
open Bool renaming and_eq_true→aah,false_eq_true→aaw,true_or→aaM,not_eq_true'→ab0,or_eq_true→aca,false_or→acd,true_and→ace,or_true→ach
open Array renaming getElem?_toList→aal,getElem?_eq_some_iff→aaz,length_toList→aaG,getElem?_eq_getElem→aaK,getElem?_modify→aa5,toList_push→abb,all_eq_true_iff_forall_mem→abc,range→abl,getElem?_push→abP,toList_range→abQ,toList_map→ab5,ext'→ab_
open BitVec renaming ofInt→aaL
open Prod renaming mk→abZ
namespace Go.Ev
def an{p:Prop}(h:p:=by omega):p:=h
def ir{p:Prop}(h:p:=by simp):p:=h
open Go Go.RowKit
inductive Tk where
 | no|full|own (q:Nat)
 deriving DecidableEq
inductive V where
 | undef
 | mh
 | any
 | int (k:IntKind) (n:Int)
 | bool (b:Bool)
 | str (s:List UInt8)
 | nilp
 | ptr (id off:Nat)
 | cptr (cs:List V)
 | vs (es:List (List V)) (tk:Tk)
 | rs (id off n sz:Nat)
 | fn (f:Nat) (cap:List V)
 | nilf
 | agg (cs:List V)
 | a_ (cs:List V)
 | mp (id:Nat)
 | nilm
 | yld (id:Nat)
 | gs (id n:Nat)
inductive X where
 | t (i:Nat)
 | c (v:V)
inductive Kd where
 | int|bool|str
 deriving DecidableEq
inductive Ky where
 | sc (k:Kd)
 | row (ks:List Kd)
@[simp] def Ky.isRow:Ky->Bool
 | .sc _=>false
 | .row _=>true
inductive dX where
 | mv (x:X)
 | pick (c a b:X)
 | box (s:Nat) (x:X)
 | alloc (s:Nat) (z:List V)
 | build (z:List V) (ps:List (Nat×Nat×X))
 | bslice (n:Nat) (z:List V) (ps:List (Nat×X))
 | load (sz:Nat) (ag old:Bool) (x:X)
 | store (sz:Nat) (a x:X)
 | pG (off:Nat) (x:X)
 | Hu (off sz:Nat) (ag:Bool) (x:X)
 | qT (sz:Nat) (x i:X)
 | m_ (len sz:Nat) (x i:X)
 | idx (len sz:Nat) (ag:Bool) (x i:X)
 | bin (op:BinOp) (x y:X)
 | beq (neg:Bool) (x y:X)
 | un (op:UnOp) (x:X)
 | conv (k:IntKind) (x:X)
 | mkfn (f:Nat) (cap:List X)
 | ext (i:Nat) (x:X)
 | len (st:Bool) (x:X)
 | app (s sz bytes:Nat) (x y:X)
 | slc (sz:Nat) (x:X) (lo hi mx:Option X)
 | qU (x:X)
 | qa (s bytes:Nat) (z:List V) (n:X)
 | Hv (ks:List Kd) (neg:Bool) (x y:X)
 | pJ (k:Nat) (neg:Bool) (x:X)
 | mm (mx:Bool) (xs:List X)
 | wT (x i:X)
 | sslc (x:X) (lo hi:Option X)
 | Hw (x:X)
 | Hx (x:X)
 | qV (s:Nat)
 | tP (ks:Ky) (ok:Bool) (z:V) (x k:X)
 | mput (ks:Ky) (x k v:X)
 | vj (ks:Ky) (z:V) (x k:X)
 | Fu (x i v:X)
 | Fv (s:Nat) (x:X)
 | x9 (x:X)
 | wU (len sz:Nat) (x:X) (lo hi:Option X)
 | Fw (sz:Nat) (x y:X)
 | loadR (sz:Nat) (ag:Bool) (r:Nat) (x:X)
 | storeA (sz:Nat) (rs:List Nat) (a x:X)
 | bsliceR (s n:Nat) (z:List V) (ps:List (Nat×X))
 | sO (sz:Nat) (ag:Bool) (x:X)
 | jS (s sz:Nat) (a x:X)
 | kcall (ro:Bool) (f:Nat) (xs:List X)
 | pcall (f:Nat) (xs:List X)
 | scall (f:Nat) (xs:List X)
 | vcall (ro:Bool) (f:X) (xs:List X)
 | scallA (rs:List Nat) (f:Nat) (xs:List X)
 | scallE (f:Nat) (xs:List X)
 | jJ (s n:Nat) (z:List V) (ps:List (Nat×X))
 | mark (x:X)
 | loadA (sz:Nat) (ag:Bool) (rs:List Nat) (x:X)
 | storeT (sz r:Nat) (a x:X)
structure aD where
 dst:Option Nat
 op:dX
 guard:Option (Nat×Bool)
inductive bc where
 | skip
 | region (m:Nat) (ops:List aD)
 | seq (a b:bc)
 | cond (c:X) (a b:bc)
 | block (id:Nat) (c:bc)
 | loop (l:List Nat) (c:bc)
 | exit (id:Nat)
 | ret
 | keep (l:List Nat)
 | give (t:Nat) (off:Option Nat)
 | freeze (t:Nat)
 | iu (g:X) (l ps:List Nat) (as bo:bc)
 | nat (k:Nat)
inductive Ex where
 | nx|exit (id:Nat)|ret
 deriving DecidableEq
inductive jw where
 | tmp (t:Nat)
 | cell (t sz:Nat) (ag:Bool)
inductive Al where
 | ready
 | busy
 | done (x:Ex)
 | over
def V.fC:V->Bool
 | .undef|.mh|.agg _|.a_ _=>false
 | _=>true
def V.pure:V->Bool
 | .int _ _|.bool _|.str _|.nilp|.cptr _|.nilf|.nilm=>true
 | .vs _ (.own _)=>false
 | .vs _ _=>true
 | .fn _ []=>true
 | _=>false
def V.cr{c:V}(h:c.pure=true):c.fC=true:=by cases c<;>simp_all [V.pure,V.fC]
structure Z where
 n:Nat
 cE:Option Nat
 cap:Nat
 sz:Nat
structure Fm where
 fn:Nat->FuncId
 gl:Nat->Option (List V)
 uL:Nat->bc->Code->Prop
instance:CoeFun Fm fun _=>Nat->FuncId:=⟨Fm.fn⟩
structure Mm where
 al:Nat->Bool
 j:Nat->Nat
 gP:Nat->Option Nat
 z:Nat->Z
 fm:Fm
def Rd(M:Mm)(b o:Nat):Prop:=∀ l,M.gP b=some l->o<l
def mq(M:Mm)(es:List (List V))(a:Option Addr)(cap:Nat):Tk->Prop
 | .no=>True
 | .full=>cap=es.length
 | .own q=>M.al q=true/\es.length<=(M.z q).n/\(es.length=(M.z q).n->cap=(M.z q).cap /\
   match(M.z q).cE with
   | none=>cap=es.length
   | some b=>a=some ⟨b,0,none⟩/\∀ e∈es,e.length=(M.z q).sz)
mutual
def aq(M:Mm)(w:World):V->Value->Prop
 | .undef,_=>True
 | .mh,v=>v=undef
 | .any,v=>v.oneCell'=true
 | .int k n,v=>v=.int k n
 | .bool b,v=>v=.bool b
 | .str s,v=>v=.string ⟨s.toArray⟩
 | .nilp,v=>v=.pointer none
 | .ptr id h,v=>M.al id=true/\v=.pointer (some ⟨M.j id,h,none⟩)
 | .cptr i,v=>(∀ c∈i,c.pure=true)/\∃ b o,v=.pointer (some ⟨b,o,none⟩)/\fI M w b i o
 | .vs g tk,v=>(∀ e∈g,∀ c∈e,c.pure=true)/\∃ a d,v=.slice a g.length d/\g.length<=d /\
   (match a with
    | none=>g=[]/\d=0
    | some l=>(g=[]\/l.spot=none)/\(∃ m,∀ e∈g,e.length=m)/\gr M w l.block g l.off)/\mq M g a d tk
 | .rs id h n _,v=>M.al id=true/\∃ d,v=.slice (some ⟨M.j id,h,none⟩) n d/\n<=d
 | .fn f d,v=>∃ xs:List Value,v=.func (.func (M.fm f)) #[] xs.toArray/\ah M w d xs
 | .nilf,v=>v=.nilFunc
 | .agg i,v=>(∀ c∈i,c.fC=true)/\∃ xs:List Value,v=.agg xs.toArray/\ah M w i xs
 | .a_ i,v=>∃ xs:List Value,v=.tuple xs.toArray/\ah M w i xs
 | .mp id,v=>M.al id=true/\v=.map (some (M.j id))
 | .nilm,v=>v=.map none
 | .yld id,v=>M.al id=true/\v=.func (.yield (M.j id)) #[] #[]
 | .gs id n,v=>M.al id=true/\∃ d,v=.slice (some ⟨M.j id,0,none⟩) n d/\n<=d/\((M.z id).n=0->d=(M.z id).cap)
def ah(M:Mm)(w:World):List V->List Value->Prop
 | [],xs=>xs=[]
 | c::b,xs=>∃ x a,xs=x::a/\aq M w c x/\ah M w b a
def fI(M:Mm)(w:World)(b:Nat):List V->Nat->Prop
 | [],_=>True
 | c::a,o=>(∃ x,w.cell? ⟨b,o,none⟩=some x/\Rd M b o/\aq M w c x)/\fI M w b a (o+1)
def gr(M:Mm)(w:World)(b:Nat):List (List V)->Nat->Prop
 | [],_=>True
 | e::a,o=>fI M w b e o/\gr M w b a (o+e.length)
end
inductive aw where
 | cells (cs:List V)
 | zone (n:Nat)
 | jr (cs:List V)
 | map (es:List (V×V))
 | dE (s:List UInt8) (pos:Nat)
 | loop (e0:List (Nat×V)) (ps:List Nat) (as bo:bc) (st:Al)
 | grow (cs:List V) (sz:Nat) (fu:Bool)
abbrev ae:=List (Option aw)
def aS(M:Mm)(H:ae)(id:Nat):Option Nat :=
 match H[id]? with
 | some (some (.zone _))=>(M.z id).cE
 | some (some _)=>some (M.j id)
 | _=>none
def uM(M:Mm)(H:ae)(b:Nat):Prop:=∃ id,aS M H id=some b
def zGr:Ex->Code
 | .nx=>.skip
 | .exit id=>.exit id
 | .ret=>.ret
def Wj:Al->Loop->Prop
 | .ready,r=>r.state=.ready/\r.pending=none
 | .busy,r=>r.state=.busy
 | .done x,r=>r.state=.done/\r.pending=some (zGr x)
 | .over,_=>True
def LPs(ps:List Nat)(r:Loop):Prop:=r.params.toList=ps/\∀ p∈ps,p<r.tmps.size
def aJ(M:Mm)(w:World)(id:Nat):aw->Prop
 | .cells a=>(∀ c∈a,c.fC=true)/\M.gP (M.j id)=some 0/\∃ xs e,w.heap[M.j id]?=some (.cells xs e (0,0))/\ah M w a (xs.toList.take a.length)
 | .grow a f g=>(∀ c∈a,c.fC=true)/\M.gP (M.j id)=some 0/\(M.z id).n=0/\(M.z id).sz=f/\∃ xs e,w.heap[M.j id]?=some (.cells xs e (0,0))/\xs.size=(M.z id).cap*f/\ah M w a (xs.toList.take a.length)/\(g=true->xs.size=a.length)
 | .zone n=>(M.z id).n=n /\
   match(M.z id).cE with
   | none=>(M.z id).cap=n
   | some b=>0<n/\n<=(M.z id).cap/\0<(M.z id).sz/\M.gP b=some (n*(M.z id).sz)/\∃ xs e,w.heap[b]?=some (.cells xs e (0,0))/\xs.size=(M.z id).cap*(M.z id).sz
 | .jr a=>(∀ c∈a,c.pure=true)/\M.gP (M.j id)=some a.length/\∃ xs e,w.heap[M.j id]?=some (.cells xs e (0,0))/\ah M w a (xs.toList.take a.length)
 | .map d=>M.gP (M.j id)=some 0/\∃ ents:Array MapEntry,w.heap[M.j id]?=some (.map ents d.length)/\ah M w (d.map (·.1)) (ents.toList.map (·.key))/\ah M w (d.map (·.2)) (ents.toList.map (·.val)) /\
   ∀(i:Nat) (x:MapEntry),ents[i]?=some x->x.born=i
 | .dE s pos=>M.gP (M.j id)=some 0/\w.heap[M.j id]?=some (.stringIter ⟨s.toArray⟩ pos)
 | .loop h k as bo st=>M.gP (M.j id)=some 0/\∃ r:Loop,w.heap[M.j id]?=some (.loop r)/\Wj st r/\LPs k r/\M.fm.uL r.tmps.size as r.assign/\M.fm.uL r.tmps.size bo r.body /\
   ∀ p∈h,aq M w p.2 (r.tmps.getD p.1 undef)
def Cx(M:Mm)(w:World):Prop:=∀ g cs,M.fm.gl g=some cs->aq M w (.cptr cs) (.pointer (some ⟨g,0,none⟩))
structure aF (M:Mm) (w:World) (H:ae):Prop where
 rO:∀ id,M.al id=true↔∃ cE,H[id]?=some (some cE)
 rel:∀ id cE,H[id]?=some (some cE)->aJ M w id cE
 inj:∀ id rQ b,aS M H id=some b->aS M H rQ=some b->id=rQ
 oQ:Cx M w
def vk(a b:Z):Prop:=a.n<=b.n/\(a.n=b.n->a=b)
def vk.refl(a:Z):vk a a:=⟨aae _,fun _=>rfl⟩
def vk.trans{a b c:Z}(h:vk a b)(k:vk b c):vk a c :=
 ⟨aa_ h.1 k.1,fun e=>by have d:=h.1;have f:=k.1;rw[h.2 an,k.2 an]⟩
structure eH (M:Mm) (H:ae) (w:World) (M':Mm) (H':ae) (w':World):Prop where
 os:w'.os=w.os
 tape:w'.tape=w.tape
 output:w'.output=w.output
 size:w.heap.size<=w'.heap.size
 same:∀ b,b<w.heap.size->¬uM M H b->w'.heap[b]?=w.heap[b]?
 cells:∀ b l o,b<w.heap.size->M.gP b=some l->o<l->w'.cell? ⟨b,o,none⟩=w.cell? ⟨b,o,none⟩
 oe:∀ b,b<w.heap.size->M.gP b=none->M'.gP b=none
 jx:∀ b l,b<w.heap.size->M.gP b=some l->∃ l',M'.gP b=some l'/\l<=l'
 limo:∀ b,b<w.heap.size->¬uM M H b->M'.gP b=M.gP b
 own:∀ b,b<w.heap.size->uM M' H' b->uM M H b
 fm:M'.fm=M.fm
def e_(M M':Mm)(n:Nat):Prop:=∀ id,id<n->M.al id=true->M'.al id=true/\M'.j id=M.j id/\vk (M.z id) (M'.z id)
def e_.refl(M:Mm)(n:Nat):e_ M M n:=fun _ _ h=>⟨h,rfl,vk.refl _⟩
def e_.trans{M M' d:Mm}{n m:Nat}(h:e_ M M' n)(k:e_ M' d m)(i:n<=m):e_ M d n:=fun id hi e=>by
 obtain⟨a,b,c⟩:=h id hi e;obtain⟨f,g,c'⟩:=k id an a;exact⟨f,g.trans b,c.trans c'⟩
def e_.mono{M M':Mm}{n m:Nat}(h:e_ M M' n)(a:m<=n):e_ M M' m:=fun id hi=>h id an
def aF.lt{M:Mm}{w:World}{H:ae}(h:aF M w H){id:Nat}(a:M.al id=true):id<H.length:=by obtain⟨c,b⟩:=(h.rO id).1 a;exact(aab.1 b).1
def eH.refl(M:Mm)(H:ae)(w:World):eH M H w M H w :=
 ⟨rfl,rfl,rfl,aae _,fun _ _ _=>rfl,fun _ _ _ _ _ _=>rfl,fun _ _ h=>h,fun _ l _ h=>⟨l,h,aae _⟩,fun _ _ _=>rfl,fun _ _ h=>h,rfl⟩
def eH.trans{M M' g:Mm}{H H' a:ae}{w w' i:World}(h:eH M H w M' H' w')(k:eH M' H' w' g a i):eH M H w g a i where
 os:=k.os.trans h.os
 tape:=k.tape.trans h.tape
 output:=k.output.trans h.output
 size:=aa_ h.size k.size
 same b hb ho:=(k.same b (aaI hb h.size) (fun o=>ho (h.own b hb o))).trans (h.same b hb ho)
 cells b l o hb hl ho:=by obtain⟨c,d,e⟩:=h.jx b l hb hl;exact(k.cells b c o (aaI hb h.size) d an).trans (h.cells b l o hb hl ho)
 oe b hb hl:=k.oe b (aaI hb h.size) (h.oe b hb hl)
 jx b l hb hl:=by obtain⟨c,d,e⟩:=h.jx b l hb hl;obtain⟨f,j,m⟩:=k.jx b c (aaI hb h.size) d;exact⟨f,j,an⟩
 limo b hb ho:=(k.limo b (aaI hb h.size) (fun o=>ho (h.own b hb o))).trans (h.limo b hb ho)
 own b hb o:=h.own b hb (k.own b (aaI hb h.size) o)
 fm:=k.fm.trans h.fm
def aF.sQ{M:Mm}{w:World}{H:ae}(h:aF M w H){b:Nat}(e:uM M H b):∃ l,M.gP b=some l:=by
 obtain⟨id,a⟩:=e;unfold aS at a;split at a
 ·rename_i n c;have:=h.rel id _ c;simp only[aJ,a] at this;exact⟨_,this.2.2.2.2.1⟩
 ·rename_i f g c;simp only[aaa.injEq] at a;subst a;have:=h.rel id _ c
  cases f with
  | zone n=>exact absurd rfl (g n)
  | cells d=>simp only[aJ] at this;exact⟨_,this.2.1⟩
  | jr d=>simp only[aJ] at this;exact⟨_,this.2.1⟩
  | map i=>simp only[aJ] at this;exact⟨_,this.1⟩
  | dE t pos=>simp only[aJ] at this;exact⟨_,this.1⟩
  | loop j k as bo st=>simp only[aJ] at this;exact⟨_,this.1⟩
  | grow d m o=>simp only[aJ] at this;exact⟨_,this.2.1⟩
 ·cases a
def eH.rd{M M':Mm}{H H':ae}{w w':World}(h:eH M H w M' H' w')(i:aF M w H){b o:Nat}{x:Value}
  (e:w.cell? ⟨b,o,none⟩=some x) (rd:Rd M b o):w'.cell? ⟨b,o,none⟩=some x/\Rd M' b o:=by
 have d:b<w.heap.size:=World.block_lt_of_cell? w _ e
 cases c:M.gP b with
 | none =>
  have j:¬uM M H b:=fun f=>by obtain⟨l,a⟩:=i.sQ f;rw[c] at a;cases a
  exact⟨(World.cell?_of_block (w:=w) (h.same b d j)).trans e,fun l a=>by rw[h.oe b d c] at a;cases a⟩
 | some l =>
  have f:=rd l c;obtain⟨m,a,k⟩:=h.jx b l d c;exact⟨(h.cells b l o d c f).trans e,fun n g=>by rw[a] at g;cases g;omega⟩
def ic{M:Mm}{w:World}:∀{cs:List V} {xs:List Value},ah M w cs xs->xs.length=cs.length
 | [],xs,h=>by simp only[ah] at h;simp[h]
 | c::cs,xs,h=>by
  simp only[ah] at h;obtain⟨x,a,rfl,_,h⟩:=h;simp[ic h]
def og{M:Mm}{w:World}:∀{cs:List V} {xs:List Value},ah M w cs xs->∀{i:Nat} {c:V},cs[i]?=some c->∃ x,xs[i]?=some x/\aq M w c x
 | [],_,_,i,c,a=>by simp at a
 | c::cs,xs,h,i,c',a=>by
  simp only[ah] at h;obtain⟨x,d,rfl,b,h⟩:=h
  cases i with
  | zero=>simp at a;subst a;exact⟨x,ir,b⟩
  | succ i=>simp at a;simpa using og h a
def AI{M:Mm}{w:World}:∀{cs:List V} {xs:List Value},xs.length=cs.length->(∀(i:Nat) (c:V) (x:Value),cs[i]?=some c->xs[i]?=some x->aq M w c x)->ah M w cs xs
 | [],xs,a,_=>by simp only[ah];exact aa2 a
 | c::cs,[],a,_=>by simp at a
 | c::cs,x::xs,a,h=>by
  simp only[ah];exact⟨x,xs,rfl,h 0 c x ir ir,AI (by simpa using a) (fun i c' b d e=>h (i+1) c' b (by simpa using d) (by simpa using e))⟩
def yZ{M:Mm}{w:World}{cs ds:List V}{xs ys:List Value}(h:ah M w cs xs)(k:ah M w ds ys):ah M w (cs++ds) (xs++ys):=by
 have f:=ic h;have g:=ic k;refine AI (by simp[f,g]) fun i c x d a=>?_;rw[List.getElem?_append] at d a;rw[f] at a;split at d
 ·rename_i hi;rw[if_pos hi] at a;obtain⟨j,b,e⟩:=og h d;rw[a] at b;cases b;exact e
 ·rename_i hi;rw[if_neg hi] at a;obtain⟨j,b,e⟩:=og k d;rw[a] at b;cases b;exact e
def wm{M:Mm}{w:World}{cs:List V}{xs:List Value}(h:ah M w cs xs)(n:Nat):ah M w (cs.take n) (xs.take n):=by
 have e:=ic h;refine AI (by simp[e]) fun i c x a b=>?_;rw[aaB] at a b;split at a
 ·rename_i hi;rw[if_pos hi] at b;obtain⟨g,d,f⟩:=og h a;rw[b] at d;cases d;exact f
 ·cases a
def x_{M:Mm}{w:World}{cs:List V}{xs:List Value}(h:ah M w cs xs)(n:Nat):ah M w (cs.drop n) (xs.drop n):=by have e:=ic h;refine AI (by simp[e]) fun i c x a b=>?_;rw[aba] at a b;obtain⟨g,d,f⟩:=og h a;rw[b] at d;cases d;exact f
def Wo{M:Mm}{w:World}{b:Nat}:∀{cs:List V} {o:Nat},fI M w b cs o->∀{i:Nat} {c:V},cs[i]?=some c->∃ x,w.cell? ⟨b,o+i,none⟩=some x/\Rd M b (o+i)/\aq M w c x
 | [],_,_,i,c,a=>by simp at a
 | c::cs,o,h,i,c',a=>by
  simp only[fI] at h;obtain⟨⟨x,d,e,f⟩,h⟩:=h
  cases i with
  | zero=>simp at a;subst a;exact⟨x,by simpa using d,by simpa using e,f⟩
  | succ i =>
   simp at a;have:=Wo h a;rw[show o+1+i=o+(i+1) by omega] at this;exact this
def DD{M:Mm}{w:World}{b:Nat}:∀{cs:List V} {o:Nat},(∀(i:Nat) (c:V),cs[i]?=some c->∃ x,w.cell? ⟨b,o+i,none⟩=some x/\Rd M b (o+i)/\aq M w c x)->fI M w b cs o
 | [],_,_=>by simp only[fI]
 | c::cs,o,h=>by
  simp only[fI];refine⟨by simpa using h 0 c ir,DD fun i c' a=>?_⟩;rw[show o+1+i=o+(i+1) by omega];exact h (i+1) c' (by simpa using a)
def znk{M:Mm}{w:World}{b:Nat}{cs ds:List V}{o:Nat}:fI M w b (cs++ds) o↔fI M w b cs o/\fI M w b ds (o+cs.length):=by
 induction cs generalizing o with
 | nil=>simp[fI]
 | cons c cs a =>
  simp only[ab4,fI,a,aaY];rw[show o+1+cs.length=o+(cs.length+1) by omega];exact and_assoc.symm
def Ke{M:Mm}{w:World}{b:Nat}{es:List (List V)}{o:Nat}:gr M w b es o↔fI M w b es.flatten o:=by
 induction es generalizing o with
 | nil=>simp[fI,gr]
 | cons e es a=>simp only[gr,aaD,znk,a]
def Wp{M:Mm}{w:World}{b:Nat}{es fs:List (List V)}{o:Nat}:gr M w b (es++fs) o↔gr M w b es o/\gr M w b fs (o+es.flatten.length):=by simp only[Ke,aa7,znk]
def Wq{M:Mm}{w:World}{c:V}{x:Value}(h:aq M w c x)(a:c.fC=true):x.oneCell'=true:=by
 cases c<;>simp only[V.fC,aaw] at a<;>simp only[aq] at h
 case any=>exact h
 case int=>subst h;rfl
 case bool=>subst h;rfl
 case str=>subst h;rfl
 case nilp=>subst h;rfl
 case ptr=>obtain⟨_,rfl⟩:=h;rfl
 case cptr=>obtain⟨_,_,_,rfl,_⟩:=h;rfl
 case vs=>obtain⟨_,_,_,rfl,_⟩:=h;rfl
 case rs=>obtain⟨_,_,rfl,_⟩:=h;rfl
 case fn=>obtain⟨_,rfl,_⟩:=h;rfl
 case nilf=>subst h;rfl
 case mp=>obtain⟨_,rfl⟩:=h;rfl
 case nilm=>subst h;rfl
 case yld=>obtain⟨_,rfl⟩:=h;rfl
 case gs=>obtain⟨_,_,rfl,_⟩:=h;rfl
mutual
def aq.step{M M':Mm}{H H':ae}{w w':World}(h:eH M H w M' H' w')(d:aF M w H)(hi:e_ M M' H.length):∀{c:V} {x:Value},aq M w c x->aq M' w' c x
 | .undef,_,_=>by simp only[aq]
 | .mh,_,e=>by simpa only[aq] using e
 | .any,_,e=>by simpa only[aq] using e
 | .int _ _,_,e=>by simpa only[aq] using e
 | .bool _,_,e=>by simpa only[aq] using e
 | .str _,_,e=>by simpa only[aq] using e
 | .nilp,_,e=>by simpa only[aq] using e
 | .ptr id k,_,e=>by
  simp only[aq] at e |-;obtain⟨a,b,_⟩:=hi id (d.lt e.1) e.1
  exact⟨a,by rw[b];exact e.2⟩
 | .cptr m,_,e=>by
  simp only[aq] at e |-;obtain⟨p,b,o,g,e⟩:=e
  exact⟨p,b,o,g,fI.step h d hi e⟩
 | .vs D tk,_,e=>by
  simp only[aq] at e |-;obtain⟨p,a,i,g,l,j,r⟩:=e;refine⟨p,a,i,g,l,?_,?_⟩
  ·cases a with
   | none=>exact j
   | some E=>exact⟨j.1,j.2.1,gr.step h d hi j.2.2⟩
  ·cases tk with
   | no=>trivial
   | full=>exact r
   | own q =>
    obtain⟨s,y,A⟩:=r;obtain⟨B,_,z⟩:=hi q (d.lt s) s;refine⟨B,aa_ y z.1,fun t=>?_⟩;have u:=z.1
    have:(M.z q).n=(M'.z q).n:=an
    have:=z.2 this;rw[<-this] at t |-
    exact A t
 | .rs id k n _,_,e=>by
  simp only[aq] at e |-;obtain⟨a,b,_⟩:=hi id (d.lt e.1) e.1
  exact⟨a,by rw[b];exact e.2⟩
 | .fn f i,_,e=>by
  simp only[aq] at e |-;obtain⟨xs,g,e⟩:=e
  exact⟨xs,by rw[h.fm];exact g,ah.step h d hi e⟩
 | .nilf,_,e=>by simpa only[aq] using e
 | .nilm,_,e=>by simpa only[aq] using e
 | .mp id,_,e=>by
  simp only[aq] at e |-;obtain⟨a,b,_⟩:=hi id (d.lt e.1) e.1
  exact⟨a,by rw[b];exact e.2⟩
 | .yld id,_,e=>by
  simp only[aq] at e |-;obtain⟨a,b,_⟩:=hi id (d.lt e.1) e.1
  exact⟨a,by rw[b];exact e.2⟩
 | .gs id n,_,e=>by
  simp only[aq] at e |-;obtain⟨a,b,z⟩:=hi id (d.lt e.1) e.1;obtain⟨_,i,g,l,u⟩:=e;refine⟨a,i,by rw[b];exact g,l,fun v=>?_⟩;have F:=z.1;have C:=z.2 an;rw[<-C] at v |-
  exact u v
 | .agg m,_,e=>by
  simp only[aq] at e |-;obtain⟨p,xs,g,e⟩:=e
  exact⟨p,xs,g,ah.step h d hi e⟩
 | .a_ m,_,e=>by
  simp only[aq] at e |-;obtain⟨xs,g,e⟩:=e;exact⟨xs,g,ah.step h d hi e⟩
def ah.step{M M':Mm}{H H':ae}{w w':World}(h:eH M H w M' H' w')(a:aF M w H)(hi:e_ M M' H.length):∀{cs:List V} {xs:List Value},ah M w cs xs->ah M' w' cs xs
 | [],_,e=>by simpa only[ah] using e
 | c::cs,_,e=>by
  simp only[ah] at e |-;obtain⟨x,b,d,f,g⟩:=e;exact⟨x,b,d,aq.step h a hi f,ah.step h a hi g⟩
def fI.step{M M':Mm}{H H':ae}{w w':World}(h:eH M H w M' H' w')(a:aF M w H)(hi:e_ M M' H.length){b:Nat}:∀{cs:List V} {o:Nat},fI M w b cs o->fI M' w' b cs o
 | [],_,_=>by simp only[fI]
 | c::cs,o,e=>by
  simp only[fI] at e |-;obtain⟨⟨x,d,rd,f⟩,g⟩:=e;have:=h.rd a d rd;exact⟨⟨x,this.1,this.2,aq.step h a hi f⟩,fI.step h a hi g⟩
def gr.step{M M':Mm}{H H':ae}{w w':World}(h:eH M H w M' H' w')(a:aF M w H)(hi:e_ M M' H.length){b:Nat}:∀{es:List (List V)} {o:Nat},gr M w b es o->gr M' w' b es o
 | [],_,_=>by simp only[gr]
 | e::es,o,k=>by
  simp only[gr] at k |-;exact⟨fI.step h a hi k.1,gr.step h a hi k.2⟩
end
def Cx.step{M M':Mm}{H H':ae}{w w':World}(h:eH M H w M' H' w')(a:aF M w H)(hi:e_ M M' H.length)(g:Cx M w):Cx M' w' :=
 fun k b c=>aq.step h a hi (g k b (by rw[<-h.fm];exact c))
end Go.Ev
namespace Go.Ev
open Go Go.RowKit
abbrev Env:=Nat->V
def Env.put(e:Env)(d:Option Nat)(v:V):Env :=
 match d with
 | some d=>fun i=>if i=d then v else e i
 | none=>e
def Env.je(e:Env)(d:Nat)(v:V)(i:Nat):(e.put (some d) v) i=if i=d then v else e i:=rfl
def ib:List (Nat×V)->Env
 | []=>fun _=>.undef
 | (d,v)::l=>fun i=>if i=d then v else ib l i
def look(e:Env):List Nat->List (Nat×V)
 | []=>[]
 | i::l=>(i,e i)::look e l
def rZ:List Nat->List V->Env->Env
 | p::a,v::vs,e=>rZ a vs (e.put (some p) v)
 | _,_,e=>e
def X.ev(e:Env):X->V
 | .t i=>e i
 | .c v=>v
def V.cells?:V->Option (List V)
 | .undef|.mh|.a_ _=>none
 | .agg a=>some a
 | v=>some [v]
def mk(a:Bool)(cs:List V):Option V :=
 if a then some (.agg cs) else match cs with|[c]=>some c|_=>none
def Tk.cl(n:Nat):Tk->Tk
 | .own q=>if q<n then .own q else .no
 | .no=>.no
 | .full=>.full
mutual
def V.cl(n:Nat):V->V
 | .ptr id a=>if id<n then .ptr id a else .any
 | .rs id a k e=>if id<n then .rs id a k e else .any
 | .vs g tk=>.vs g (tk.cl n)
 | .fn f d=>.fn f (aX n d)
 | .agg c=>.agg (aX n c)
 | .a_ c=>.a_ (aX n c)
 | .undef=>.undef
 | .mh=>.mh
 | .any=>.any
 | .int k i=>.int k i
 | .bool b=>.bool b
 | .str s=>.str s
 | .nilp=>.nilp
 | .cptr c=>.cptr c
 | .nilf=>.nilf
 | .mp id=>if id<n then .mp id else .any
 | .nilm=>.nilm
 | .yld id=>if id<n then .yld id else .any
 | .gs id k=>if id<n then .gs id k else .any
def aX(n:Nat):List V->List V
 | []=>[]
 | c::a=>c.cl n::aX n a
end
def aw.cl(n:Nat):aw->aw
 | .cells a=>.cells (aX n a)
 | .zone k=>.zone k
 | .jr a=>.jr (aX n a)
 | .map b=>.map (b.map fun p=>(p.1.cl n,p.2.cl n))
 | .dE s pos=>.dE s pos
 | .loop c d as bo st=>.loop (c.map fun p=>(p.1,p.2.cl n)) d as bo st
 | .grow a e f=>.grow (aX n a) e f
def aj(n:Nat)(H:ae):ae:=(H.take n).map (ab9 (aw.cl n))
inductive UOp where
 | neg|not|xor
 deriving DecidableEq
def iZ(k:IntKind)(a b:Int):Int:=k.wrap (aaL k.bits a &&& aaL k.bits b).toNat
def uK(k:IntKind)(a b:Int):Int:=k.wrap (aaL k.bits a ||| aaL k.bits b).toNat
def vl(k:IntKind)(a b:Int):Int:=k.wrap (aaL k.bits a ^^^ aaL k.bits b).toNat
def Kg(k:IntKind)(a b:Int):Int:=k.wrap (aaL k.bits a &&& ~~~aaL k.bits b).toNat
def jc(k:IntKind)(a b:Int):Int:=k.wrap (a*2^(min b.toNat k.bits))
def jR(k:IntKind)(a b:Int):Int:=a.fdiv (2^(min b.toNat k.bits))
def mr(k:IntKind)(a b:Int):Int:=k.wrap (a.tdiv b)
def eO(k:IntKind)(a b:Int):Int:=k.wrap (a*b)
def aE(k:IntKind)(a b:Int):Int:=k.wrap (a+b)
def c_(k:IntKind)(a b:Int):Int:=k.wrap (a-b)
def mV(a b:Int):Int:=a.tmod b
def AJ(k:IntKind)(a:Int):Int:=k.wrap (0-a)
def AK(k:IntKind)(a:Int):Int:=k.wrap (aaL k.bits (if k.signed then -1 else k.max) ^^^ aaL k.bits a).toNat
def fV(k:IntKind)(a:Int):Int:=k.wrap a
def Wu(op:BinOp):V->V->Option V
 | .int k a,.int c b =>
  match op with
  | .shl=>if b<0 then none else some (.int k (jc k a b))
  | .shr=>if b<0 then none else some (.int k (jR k a b))
  | .add=>if k=c then some (.int k (aE k a b)) else none
  | .sub=>if k=c then some (.int k (c_ k a b)) else none
  | .mul=>if k=c then some (.int k (eO k a b)) else none
  | .quo=>if k=c then(if b=0 then none else some (.int k (mr k a b))) else none
  | .rem=>if k=c then(if b=0 then none else some (.int k (mV a b))) else none
  | .and=>if k=c then some (.int k (iZ k a b)) else none
  | .or=>if k=c then some (.int k (uK k a b)) else none
  | .xor=>if k=c then some (.int k (vl k a b)) else none
  | .andNot=>if k=c then some (.int k (Kg k a b)) else none
  | .eql=>if k=c then some (.bool (a==b)) else none
  | .neq=>if k=c then some (.bool (a !=b)) else none
  | .lss=>if k=c then some (.bool (decide (a<b))) else none
  | .leq=>if k=c then some (.bool (decide (a<=b))) else none
  | .gtr=>if k=c then some (.bool (decide (a>b))) else none
  | .geq=>if k=c then some (.bool (decide (a≥b))) else none
 | .str a,.str b =>
  match op with
  | .add=>if a.length+b.length<=9223372036854775807 then some (.str (a++b)) else none
  | .eql=>some (.bool (a==b))
  | .neq=>some (.bool !(a==b))
  | .lss=>some (.bool (Op.bytesLess a b))
  | .leq=>some (.bool (Op.bytesLess a b||a==b))
  | .gtr=>some (.bool !(Op.bytesLess a b||a==b))
  | .geq=>some (.bool !(Op.bytesLess a b))
  | _=>none
 | _,_=>none
def HA(op:UnOp):V->Option V
 | .int k n =>
  match op with
  | .neg=>some (.int k (AJ k n))
  | .xor=>some (.int k (AK k n))
  | _=>none
 | .bool b =>
  match op with
  | .not=>some (.bool !b)
  | _=>none
 | _=>none
def oh(e:Env):List V->List (Nat×Nat×X)->Option (List V)
 | cs,[]=>some cs
 | cs,(a,b,x)::c =>
  match(x.ev e).cells? with
  | some ds=>if ds.length=b/\a+ds.length<=cs.length then oh e (cs.take a++ds++cs.drop (a+ds.length)) c else none
  | none=>none
def AL(e:Env)(sz:Nat):List (List V)->List (Nat×X)->Option (List (List V))
 | es,[]=>some es
 | es,(i,x)::a =>
  match(x.ev e).cells? with
  | some ds=>if i<es.length/\ds.length=sz/\ds.all V.pure=true then AL e sz (es.set i ds) a else none
  | none=>none
def intOf?:V->Option Int
 | .int _ n=>some n
 | _=>none
def sR(e:Env)(len:Nat)(lo hi mx:Option X):Option (Nat×Nat×Bool) :=
 let h?:Option Int:=match hi with|some x=>intOf? (x.ev e)|none=>some len
 let l?:Option Int:=match lo with|some x=>intOf? (x.ev e)|none=>some 0
 let m?:Option (Option Int):=match mx with|some x=>(intOf? (x.ev e)).map some|none=>some none
 match l?,h?,m? with
 | some l,some h,some m =>
  if 0<=l/\l<=h/\h<=len/\(∀ v,m=some v->v=h)/\(mx.isSome->hi.isSome) then some (l.toNat,h.toNat,m.isSome) else none
 | _,_,_=>none
def V.eqc:V->V->Option Bool
 | .int k a,.int c b=>if k=c then some (a==b) else none
 | .bool a,.bool b=>some (a==b)
 | .str a,.str b=>some (a==b)
 | _,_=>none
def y0:List V->List V->Option Bool
 | [],[]=>some true
 | a::as,b::c=>match a.eqc b,y0 as c with
  | some x,some y=>some (x&&y)
  | _,_=>none
 | _,_=>none
def qx:Kd->V->V->Option Bool
 | .int,.int k a,.int c b=>if k=c then some (a==b) else none
 | .bool,.bool a,.bool b=>some (a==b)
 | .str,.str a,.str b=>some (a==b)
 | _,_,_=>none
def cC:List Kd->List V->List V->Option Bool
 | [],[],[]=>some true
 | k::c,a::as,b::d=>match qx k a b,cC c as d with
  | some x,some y=>some (x&&y)
  | _,_=>none
 | _,_,_=>none
def j7(ks:Ky)(a b:V):Option Bool :=
 match ks,a,b with
 | .sc k,a,b=>qx k a b
 | .row ks,.agg x,.agg y=>cC ks x y
 | _,_,_=>none
def j6(ks:Ky)(k:V):List (V×V)->Nat->Option (Option (Nat×V))
 | [],_=>some none
 | p::a,i=>match j7 ks k p.1 with
  | some true=>some (some (i,p.2))
  | some false=>j6 ks k a (i+1)
  | none=>none
def My(mx:Bool)(a b:Int):Int:=if mx then(if b>a then b else a) else(if b<a then b else a)
def r8(e:Env)(mx:Bool)(k:IntKind):Int->List X->Option V
 | a,[]=>some (.int k a)
 | a,x::xs=>match x.ev e with
  | .int c b=>if k=c then r8 e mx k (My mx a b) xs else none
  | _=>none
def Cv:List (List V)->Option (List UInt8)
 | []=>some []
 | [.int .u8 n]::a=>match Cv a with|some b=>some (UInt8.ofNat n.toNat::b)|none=>none
 | _=>none
def qW(s:List UInt8):List (List V):=s.map fun b=>[V.int .u8 b.toNat]
def V.elems?:V->Option (List (List V))
 | .vs a _=>some a
 | .str s=>some (qW s)
 | _=>none
def Ri(H:ae)(sz:Nat):V->Option (List V)
 | .vs b _=>if b.all (fun f=>f.length==sz) then some b.flatten else none
 | .rs id a n _=>match H[id]? with
  | some (some (.cells c))=>if a+n*sz<=c.length then some ((c.drop a).take (n*sz)) else none
  | _=>none
 | _=>none
def lK(H:ae)(i:Nat):Bool:=match H[i]? with|some none=>true|_=>false
def pE(sz:Nat):Nat->List V->List (List V)
 | 0,_=>[]
 | k+1,a=>a.take sz::pE sz k (a.drop sz)
def loadAt(H:ae)(sz:Nat)(b:Bool)(id off:Nat):Option (V×ae) :=
 match H[id]? with
 | some (some (.cells a))=>if off+sz<=a.length then(mk b ((a.drop off).take sz)).map (·,H) else none
 | _=>none
def V.ptrId?:V->Option Nat
 | .ptr id _=>some id
 | .rs id _ _ _=>some id
 | _=>none
def storeAt(H:ae)(sz id off:Nat)(v:V):Option (V×ae) :=
 match v.cells?,H[id]? with
 | some ds,some (some (.cells a))=>if ds.length=sz/\off+sz<=a.length then some (.undef,H.set id (some (.cells (a.take off++ds++a.drop (off+sz))))) else none
 | _,_=>none
def V.jq:V->V
 | .vs a _=>.vs a .no
 | v=>v
def V.Fx:V->V
 | .vs a _=>.vs a .no
 | .agg b=>.agg (b.map V.jq)
 | v=>v
def aV(base:Nat)(e:Env)(H:ae):dX->Option (V×ae)
 | .mv x=>some (x.ev e,H)
 | .pick c a b=>match c.ev e with|.bool t=>some (if t then a.ev e else b.ev e,H)|_=>none
 | .box s x=>match(x.ev e).cells? with
  | some j=>if lK H (base+s)=true then some (.ptr (base+s) 0,H.set (base+s) (some (.cells j))) else none
  | none=>none
 | .alloc s z=>if lK H (base+s)=true then some (.ptr (base+s) 0,H.set (base+s) (some (.cells z))) else none
 | .build z C=>match oh e z C with|some j=>some (.agg j,H)|none=>none
 | .bslice n z C=>match AL e z.length (aan n z) C with|some u=>some (.vs u .full,H)|none=>none
 | .load g A G x=>match x.ev e with
  | .ptr id d=>if G=true/\base<=id then none else match H[id]? with
   | some (some (.cells j))=>if d+g<=j.length then(mk A ((j.drop d).take g)).map (·,H) else none
   | _=>none
  | .cptr j=>if g<=j.length then(mk A (j.take g)).map (·,H) else none
  | _=>none
 | .store g a x=>match a.ev e,(x.ev e).cells? with
  | .ptr id d,some ds=>match H[id]? with
   | some (some (.cells j))=>if ds.length=g/\d+g<=j.length then some (.undef,H.set id (some (.cells (j.take d++ds++j.drop (d+g))))) else none
   | _=>none
  | _,_=>none
 | .pG d x=>match x.ev e with
  | .ptr id o=>some (.ptr id (o+d),H)
  | .cptr j=>some (.cptr (j.drop d),H)
  | _=>none
 | .Hu d g A x=>match x.ev e with
  | .agg j=>if d+g<=j.length then(mk A ((j.drop d).take g)).map (·,H) else none
  | _=>none
 | .qT g x i=>match x.ev e,i.ev e with
  | .vs u _,.int _ n=>if 0<=n then match u[n.toNat]? with
    | some j=>if j.length=g then some (.cptr j,H) else none
    | none=>none
   else none
  | .rs id d k _,.int _ n=>if 0<=n/\n<k then some (.ptr id (d+n.toNat*g),H) else none
  | _,_=>none
 | .m_ w g x i=>match x.ev e,i.ev e with
  | .ptr id d,.int _ n=>if 0<=n/\n<w then some (.ptr id (d+n.toNat*g),H) else none
  | .cptr j,.int _ n=>if 0<=n/\n<w then some (.cptr (j.drop (n.toNat*g)),H) else none
  | _,_=>none
 | .idx w g A x i=>match x.ev e,i.ev e with
  | .agg j,.int _ n=>if 0<=n/\n<w/\n.toNat*g+g<=j.length then(mk A ((j.drop (n.toNat*g)).take g)).map (·,H) else none
  | _,_=>none
 | .bin I x y=>(Wu I (x.ev e) (y.ev e)).map (·,H)
 | .beq neg x y=>match x.ev e,y.ev e with
  | .bool a,.bool b=>some (.bool (if neg then !(a==b) else a==b),H)
  | _,_=>none
 | .un I x=>(HA I (x.ev e)).map (·,H)
 | .conv k x=>match x.ev e with|.int _ n=>some (.int k (fV k n),H)|_=>none
 | .mkfn f D=>some (.fn f (D.map (X.ev e)),H)
 | .ext i x=>match x.ev e with|.a_ j=>(j[i]?).map (·,H)|_=>none
 | .len st x=>match st,x.ev e with
  | false,.vs u _=>some (.int .i64 u.length,H)
  | false,.rs _ _ n _=>some (.int .i64 n,H)
  | true,.str s=>some (.int .i64 s.length,H)
  | _,_=>none
 | .app s g bytes x y=>match x.ev e,(y.ev e).elems? with
  | .vs u tk,some E =>
   if E=[] then some (.vs u tk,H) else
   if(u.length+E.length)*bytes<=140737488355328/\(∀ f∈E,f.length=g)/\(∀ f∈u,f.length=g) then
    match tk with
    | .own q=>match H[q]? with
     | some (some (.zone n))=>if n=u.length then some (.vs (u++E) (.own q),H.set q (some (.zone (n+E.length)))) else none
     | _=>none
    | .full=>if lK H (base+s)=true then some (.vs (u++E) (.own (base+s)),H.set (base+s) (some (.zone (u.length+E.length)))) else none
    | .no=>none
   else none
  | _,_=>none
 | .slc g x lo hi F=>match x.ev e with
  | .vs u tk=>match sR e u.length lo hi F with
   | some (l,h,m)=>if(∀ f∈u,f.length=g) then some (.vs ((u.drop l).take (h-l)) (if m=true\/tk=.full/\h=u.length then .full else .no),H) else none
   | none=>none
  | .rs id d n K=>match sR e n lo hi F with
   | some (l,h,m)=>if l=0\/l<n/\m=false then some (.rs id (d+l*g) (h-l) K,H) else none
   | none=>none
  | _=>none
 | .qU x=>match x.ev e with
  | .ptr id o=>some (.ptr id o,H)
  | .cptr j=>some (.cptr j,H)
  | .fn f D=>some (.fn f D,H)
  | _=>none
 | .qa s bytes z n=>match n.ev e with
  | .int _ k=>if lK H (base+s)=true/\0<=k/\k.toNat*bytes<=140737488355328 then some (.rs (base+s) 0 k.toNat z.length,H.set (base+s) (some (.cells (aan k.toNat z).flatten))) else none
  | _=>none
 | .Hv B neg x y=>match x.ev e,y.ev e with
  | .agg j,.agg ds=>match cC B j ds with
   | some b=>some (.bool (if neg then !b else b),H)
   | none=>none
  | _,_=>none
 | .pJ k neg x=>match k,x.ev e with
  | 0,.fn _ _=>some (.bool neg,H)
  | 0,.nilf=>some (.bool !neg,H)
  | 1,.ptr _ _=>some (.bool neg,H)
  | 1,.cptr _=>some (.bool neg,H)
  | 1,.nilp=>some (.bool !neg,H)
  | 2,.mp _=>some (.bool neg,H)
  | 2,.nilm=>some (.bool !neg,H)
  | _,_=>none
 | .mm F xs=>match xs with
  | x::xs=>match x.ev e with
   | .int k a=>(r8 e F k a xs).map (·,H)
   | _=>none
  | []=>none
 | .wT x i=>match x.ev e,i.ev e with
  | .str s,.int _ n=>if 0<=n then match s[n.toNat]? with
    | some b=>some (.int .u8 b.toNat,H)
    | none=>none
   else none
  | _,_=>none
 | .sslc x lo hi=>match x.ev e with
  | .str s=>match sR e s.length lo hi none with
   | some (l,h,_)=>some (.str ((s.drop l).take (h-l)),H)
   | none=>none
  | _=>none
 | .Hw x=>match x.ev e with
  | .vs u _=>match Cv u with
   | some s=>some (.str s,H)
   | none=>none
  | _=>none
 | .Hx x=>match x.ev e with
  | .int _ n=>some (.str (Utf8.encode n).data.toList,H)
  | _=>none
 | .qV s=>if lK H (base+s)=true then some (.mp (base+s),H.set (base+s) (some (.map []))) else none
 | .tP B J z x k=>if B.isRow=true/\j7 B (k.ev e) (k.ev e)=none then none else match x.ev e with
  | .mp id=>match H[id]? with
   | some (some (.map u))=>match j6 B (k.ev e) u 0 with
    | some (some (_,v))=>some (if J then .a_ [v,.bool true] else v,H)
    | some none=>some (if J then .a_ [z,.bool false] else z,H)
    | none=>none
   | _=>none
  | .nilm=>some (if J then .a_ [z,.bool false] else z,H)
  | _=>none
 | .mput B x k v=>match x.ev e with
  | .mp id=>if j7 B (k.ev e) (k.ev e)=none\/(v.ev e).cells?=none then none else match H[id]? with
   | some (some (.map u))=>match j6 B (k.ev e) u 0 with
    | some (some (i,_))=>some (.undef,H.set id (some (.map (u.set i (k.ev e,v.ev e)))))
    | some none=>some (.undef,H.set id (some (.map (u++[(k.ev e,v.ev e)]))))
    | none=>none
   | _=>none
  | _=>none
 | .vj B z x k=>match x.ev e with
  | .mp id=>if j7 B (k.ev e) (k.ev e)=none then none else match H[id]? with
   | some (some (.map u))=>match j6 B (k.ev e) u 0 with
    | some (some (i,v))=>some (.a_ [v,.int .i64 i],H.set id (some (.map (u.set i (k.ev e,v)))))
    | some none=>some (.a_ [z,.int .i64 u.length],H.set id (some (.map (u++[(k.ev e,z)]))))
    | none=>none
   | _=>none
  | _=>none
 | .Fu x i v=>match x.ev e,i.ev e with
  | .mp id,.int _ n=>match H[id]? with
   | some (some (.map u))=>if 0<=n then match u[n.toNat]? with
     | some p=>some (.undef,H.set id (some (.map (u.set n.toNat (p.1,v.ev e)))))
     | none=>none
    else none
   | _=>none
  | _,_=>none
 | .Fv s x=>match x.ev e with
  | .str t=>if lK H (base+s)=true then some (.ptr (base+s) 0,H.set (base+s) (some (.dE t 0))) else none
  | _=>none
 | .x9 x=>match x.ev e with
  | .ptr id 0=>match H[id]? with
   | some (some (.dE t pos)) =>
    if pos<t.length then some (.a_ [.bool true,.int .i64 pos,.int .i32 (Utf8.decode ⟨t.toArray⟩ pos).1],H.set id (some (.dE t (pos+(Utf8.decode ⟨t.toArray⟩ pos).2))))
    else some (.a_ [.bool false],H)
   | _=>none
  | _=>none
 | .wU w g x lo hi=>match sR e w lo hi none with
  | some (l,h,_)=>match x.ev e with
   | .ptr id d=>if l<w then some (.rs id (d+l*g) (h-l) g,H) else none
   | _=>none
  | none=>none
 | .Fw g x y=>match x.ev e with
  | .rs id d n _=>match H[id]?,Ri H g (y.ev e) with
   | some (some (.cells j)),some ds =>
    if d+n*g<=j.length/\0<g then
     some (.int .i64 (min (ds.length/g) n:Nat),H.set id (some (.cells (j.take d++ds.take (min (ds.length/g) n*g)++j.drop (d+min (ds.length/g) n*g)))))
    else none
   | _,_=>none
  | _=>none
 | .loadR g A r x=>match x.ev e with
  | .ptr id d=>if(e r).ptrId?=some id then loadAt H g A id d else none
  | _=>none
 | .storeA g rs a x=>match a.ev e with
  | .ptr id d=>if rs.all (fun r=>(e r).ptrId? !=some id) then storeAt H g id d (x.ev e) else none
  | _=>none
 | .bsliceR s n z C=>if lK H (base+s)=true then match oh e (aan n z).flatten (C.map fun q=>(q.1*z.length,z.length,q.2)) with
   | some j=>some (.rs (base+s) 0 n z.length,H.set (base+s) (some (.cells j)))
   | none=>none
  else none
 | .sO g A x=>match x.ev e with
  | .cptr j=>if g<=j.length then(mk A (j.take g)).map (·,H) else none
  | _=>none
 | .jS s g a x=>match a.ev e with
  | .ptr id d=>if id=base+s then storeAt H g id d (x.ev e) else none
  | _=>none
 | .jJ s n z C=>match AL e z.length (aan n z) C with
  | some u=>if lK H (base+s)=true then some (.gs (base+s) n,H.set (base+s) (some (.grow u.flatten z.length true))) else none
  | none=>none
 | .mark x=>match x.ev e with
  | .gs id n=>match H[id]? with
   | some (some (.grow j g true))=>if g=1/\j.length=n/\j.all V.pure=true then some (.vs (pE 1 n j) .full,H.set id (some (.zone 1))) else none
   | _=>none
  | _=>none
 | .loadA g A rs x=>match x.ev e with
  | .ptr id d=>if rs.all (fun r=>(e r).ptrId? !=some id) then loadAt H g A id d else none
  | _=>none
 | .storeT g r a x=>match a.ev e with
  | .ptr id d=>if(e r).ptrId?=some id then storeAt H g id d (x.ev e) else none
  | _=>none
 | .pcall _ _|.scall _ _|.kcall _ _ _|.vcall _ _ _|.scallA _ _ _|.scallE _ _=>none
def y6(H:ae):V->V
 | .rs id a n b=>match H[id]? with
  | some (some (.cells c))=>if a+n*b<=c.length/\c.all V.pure=true then .vs (pE b n (c.drop a)) .no else .rs id a n b
  | _=>.rs id a n b
 | v=>v
def uN(H:ae):V->V
 | .a_ vs=>.a_ (vs.map (y6 H))
 | v=>y6 H v
def V.nf:V->V
 | .a_ a=>.a_ (a.map V.Fx)
 | v=>v.Fx
def V.out(v:V):V:=(v.cl 0).nf
def y7(l:List V):List V:=l.map V.out
structure aI where
 nt:Nat
 body:bc
 res:List jw
def oR(l:List Nat)(e:Env):Env:=fun i=>if i∈l then e i else .undef
def Env.cl(n:Nat)(e:Env):Env:=fun i=>(e i).cl n
def wanted(e:Env)(o:aD):Option Bool :=
 match o.guard with
 | none=>some true
 | some (g,a)=>match e g with|.bool b=>some (b==a)|.mh=>some false|_=>none
def DE(e:Env)(H:ae)(t:Nat):Option Nat->Option (Env×ae)
 | none=>match e t with
  | .vs a .full=>some (e.put (some t) (.vs a (.own H.length)),H++[some (.zone a.length)])
  | .vs a (.own q)=>some (e.put (some t) (.vs a (.own q)),H)
  | _=>none
 | some b=>match e t with
  | .ptr id o=>match H[id]? with
   | some (some (.cells c))=>match c[o+b]? with
    | some (.vs a .full)=>some (e,H.set id (some (.cells (c.set (o+b) (.vs a (.own H.length)))))++[some (.zone a.length)])
    | some (.vs _ (.own _))=>some (e,H)
    | _=>none
   | _=>none
  | _=>none
def nb(H:ae):List V->Option (List V×ae)
 | []=>some ([],H)
 | .rs id a n d::e=>match H[id]? with
  | some (some (.cells ds))=>if a+n*d<=ds.length/\ds.all V.pure=true then
    match nb (H.set id (some (.jr ds))) e with
    | some (b,H')=>some (.vs (pE d n (ds.drop a)) .no::b,H')
    | none=>none
   else none
  | some (some (.jr ds))=>if a+n*d<=ds.length then
    match nb H e with
    | some (b,H')=>some (.vs (pE d n (ds.drop a)) .no::b,H')
    | none=>none
   else none
  | _=>none
 | c::e=>match nb H e with
  | some (b,H')=>some (c::b,H')
  | none=>none
def Fy(e:Env)(H:ae)(t:Nat):Option (Env×ae) :=
 match e t with
 | .agg a=>match nb H a with
  | some (b,H')=>some (e.put (some t) (.agg b),H')
  | none=>none
 | .ptr id _=>match H[id]? with
  | some (some (.cells a))=>match nb H a with
   | some (b,H')=>match H'[id]? with
    | some (some (.cells _))=>some (e,H'.set id (some (.cells b)))
    | _=>none
   | none=>none
  | _=>none
 | v=>match nb H [v] with
  | some ([c],H')=>some (e.put (some t) c,H')
  | _=>none
def Rj(e:Env)(H:ae):jw->Option V
 | .tmp t=>some (e t)
 | .cell t b d=>match e t with
  | .ptr id a=>match H[id]? with
   | some (some (.cells c))=>if a+b<=c.length then mk d ((c.drop a).take b) else none
   | _=>none
  | _=>none
def vm(e:Env)(H:ae):List jw->Option (List V)
 | []=>some []
 | r::rs=>match Rj e H r,vm e H rs with
  | some v,some vs=>some (v::vs)
  | _,_=>none
def vn:List V->V
 | [v]=>v
 | vs=>.a_ vs
def M5(args:List V):Env:=fun i=>args.getD i .undef
inductive J where
 | F (f:Nat) (args:List V) (H:ae) (r:V) (H':ae)
 | S (base:Nat) (o:aD) (e:Env) (H:ae) (e':Env) (H':ae)
 | O (base:Nat) (os:List aD) (e:Env) (H:ae) (e':Env) (H':ae)
 | C (c:bc) (e:Env) (H:ae) (x:Ex) (e':Env) (H':ae)
 | L (n:Nat) (l:List Nat) (c:bc) (e:Env) (H:ae) (x:Ex) (e':Env) (H':ae)
def Kh(e:Env)(rs:List Nat)(H H1:ae):Prop:=∀ r∈rs,∀ id,(e r).ptrId?=some id->H1[id]?=H[id]?
def M6(base:Nat)(args:List V)(H H':ae):Prop:=(∀ v∈args,v.cl base=v)/\H.map (ab9 (aw.cl base))=H/\H'.drop base=H.drop base
def y8:Nat->List V->ae->V->ae->Prop
 | 0,[.mp id,.int .u32 n],H,r,H'=>H'=H/\∃ a:List (List UInt8×Int),H[id]?=some (some (.map (a.map fun p=>(V.str p.1,V.int .u32 p.2))))/\(a.map (·.2)).Nodup/\r=.str (((a.find? fun p=>p.2==n).map (·.1)).getD [])
 | 0,[.nilm,.int .u32 _],H,r,H'=>H'=H/\r=.str []
 | _,_,_,_,_=>False
inductive bA (G:Nat->Option aI):J->Prop
 | nat {f fn k args H r H'}:G f=some fn->fn.body=.nat k->y8 k args H r H'->bA G (.F f args H r H')
 | fn {f fn args H x e' H' vs}:G f=some fn->args.length<=fn.nt->bA G (.C fn.body (M5 args) H x e' H')->(x=.nx\/x=.ret)->vm e' H' fn.res=some vs ->
   bA G (.F f args H (vn vs) H')
 | ev {base o e H v H1}:wanted e o=some true->aV base e H o.op=some (v,H1)->bA G (.S base o e H (e.put o.dst v) H1)
 | skip {base o e H}:wanted e o=some false->bA G (.S base o e H (e.put o.dst .mh) H)
 | pcall {base o e H f xs r H1}:wanted e o=some true->o.op=.pcall f xs->bA G (.F f (y7 (xs.map (X.ev e))) [] r H1) ->
   bA G (.S base o e H (e.put o.dst (uN H1 r).out) H)
 | scall {base o e H f xs r H1}:wanted e o=some true->o.op=.scall f xs->bA G (.F f (xs.map (X.ev e)) H r H1) ->
   bA G (.S base o e H (e.put o.dst (r.cl H.length)) (aj H.length H1))
 | scallA {base o e H rs f xs r H1}:wanted e o=some true->o.op=.scallA rs f xs->bA G (.F f (xs.map (X.ev e)) H r H1)->Kh e rs H (aj H.length H1) ->
   bA G (.S base o e H (e.put o.dst (r.cl H.length)) (aj H.length H1))
 | scallE {base o e H f xs r H1}:wanted e o=some true->o.op=.scallE f xs->bA G (.F f (xs.map (X.ev e)) H r H1)->M6 base (xs.map (X.ev e)) H (aj H.length H1) ->
   bA G (.S base o e H (e.put o.dst (r.cl H.length)) (aj H.length H1))
 | kcall {base o e H ro f xs r H1}:wanted e o=some true->o.op=.kcall ro f xs->bA G (.F f (xs.map (X.ev e)) H r H1)->(ro=true->base<=H.length/\H1.take H.length=H) ->
   bA G (.S base o e H (e.put o.dst r) H1)
 | vcall {base o e H ro fx xs f cap r H1}:wanted e o=some true->o.op=.vcall ro fx xs->fx.ev e=.fn f cap->bA G (.F f (xs.map (X.ev e)++cap) H r H1) ->
   (ro=true->aj H.length H1=H)->bA G (.S base o e H (e.put o.dst (r.cl H.length)) (aj H.length H1))
 | j8 {base o e H fx xs id e0 ps as bo e1 H1 f0 qX qY qZ x e2 H2 g0 q6 q7 q8}:wanted e o=some true->o.op=.vcall false fx xs->fx.ev e=.yld id->H[id]?=some (some (.loop e0 ps as bo .ready))->xs.length=ps.length ->
   bA G (.C as (rZ ps (xs.map (X.ev e)) (ib e0)) H .nx e1 H1)->H1[id]?=some (some (.loop f0 qX qY qZ .ready))->bA G (.C bo e1 (H1.set id (some (.loop f0 qX qY qZ .busy))) x e2 H2) ->
   H2[id]?=some (some (.loop g0 q6 q7 q8 .busy)) ->
   bA G (.S base o e H (e.put o.dst (.bool (decide (x=.nx)))) (aj H.length (H2.set id (some (.loop g0 q6 q7 q8 (if x=.nx then .ready else .done x))))))
 | nil {base e H}:bA G (.O base [] e H e H)
 | cons {base o os e H e1 H1 e2 H2}:bA G (.S base o e H e1 H1)->bA G (.O base os e1 H1 e2 H2)->bA G (.O base (o::os) e H e2 H2)
 | AM {e H}:bA G (.C .skip e H .nx e H)
 | region {m ops e H e' H'}:bA G (.O H.length ops e (H++aan m none) e' H')->bA G (.C (.region m ops) e H .nx e' H')
 | DF {a b e H e1 H1 x e2 H2}:bA G (.C a e H .nx e1 H1)->bA G (.C b e1 H1 x e2 H2)->bA G (.C (.seq a b) e H x e2 H2)
 | AN {a b e H x e1 H1}:bA G (.C a e H x e1 H1)->x≠.nx->bA G (.C (.seq a b) e H x e1 H1)
 | cond {c a b e H t x e1 H1}:c.ev e=.bool t->bA G (.C (if t then a else b) e H x e1 H1)->bA G (.C (.cond c a b) e H x e1 H1)
 | block {id c e H x e1 H1}:bA G (.C c e H x e1 H1)->bA G (.C (.block id c) e H (if x=.exit id then .nx else x) e1 H1)
 | loop {l c e H x e1 H1}:bA G (.L H.length l c e H x e1 H1)->bA G (.C (.loop l c) e H x e1 H1)
 | round {n l c e H e1 H1 x e2 H2}:bA G (.C c ((oR l e).cl n) (aj n H) .nx e1 H1)->bA G (.L n l c e1 H1 x e2 H2)->bA G (.L n l c e H x e2 H2)
 | last {n l c e H x e1 H1}:bA G (.C c ((oR l e).cl n) (aj n H) x e1 H1)->x≠.nx->bA G (.L n l c e H x e1 H1)
 | AO {n k l c e H e1 H1 x e2 H2}:n<=k->k<=H.length->bA G (.C c ((oR l e).cl k) (aj k H) .nx e1 H1)->bA G (.L n l c e1 H1 x e2 H2)->bA G (.L n l c e H x e2 H2)
 | AP {n k l c e H x e1 H1}:n<=k->k<=H.length->bA G (.C c ((oR l e).cl k) (aj k H) x e1 H1)->x≠.nx->bA G (.L n l c e H x e1 H1)
 | exit {id e H}:bA G (.C (.exit id) e H (.exit id) e H)
 | ret {e H}:bA G (.C .ret e H .ret e H)
 | keep {l e H}:bA G (.C (.keep l) e H .nx (oR l e) H)
 | give {t off e H e1 H1}:DE e H t off=some (e1,H1)->bA G (.C (.give t off) e H .nx e1 H1)
 | iu {g l ps as bo e H f cap r H1 e0 vZ yO yP st x}:g.ev e=.fn f cap->bA G (.F f (.yld H.length::cap) (H++[some (.loop (look e l) ps as bo .ready)]) r H1) ->
   H1[H.length]?=some (some (.loop e0 vZ yO yP st))->(st=.ready/\x=.nx\/st=.done x/\x≠.nx)->bA G (.C (.iu g l ps as bo) e H x e (aj H.length H1))
 | freeze {t e H e1 H1}:Fy e H t=some (e1,H1)->bA G (.C (.freeze t) e H .nx e1 H1)
open Go Go.RowKit
variable {M M':Mm} {H H':ae} {w w':World}
def getElem?_set_ne{α:Type}{l:List α}{i j:Nat}{a:α}(h:j≠i):(l.set i a)[j]?=l[j]?:=by rw[aaX];rw[if_neg (fun e=>h e.symm)]
def uO{i:Nat}:lK H i=true↔H[i]?=some none:=by
 unfold lK
 split<;>simp_all
def aJ.step(h:eH M H w M' H' w')(i:aF M w H)(hi:e_ M M' H.length){id:Nat}{q:aw}(k:H[id]?=some (some q))
  (l:∀ b,aS M H id=some b->w'.heap[b]?=w.heap[b]?/\M'.gP b=M.gP b) (v:M'.z id=M.z id):aJ M' w' id q:=by
 have x:M.al id=true:=(i.rO id).2 ⟨q,k⟩;have A:=i.lt x;obtain⟨_,m,_⟩:=hi id A x;have g:=i.rel id q k
 cases q with
 | cells y =>
  simp only[aJ] at g |-;obtain⟨a,b,xs,e,c,d⟩:=g;have:=l (M.j id) (by simp[aS,k]);rw[m]
  exact⟨a,this.2.trans b,xs,e,this.1.trans c,ah.step h i hi d⟩
 | zone n =>
  simp only[aJ] at g |-;rw[v];refine⟨g.1,?_⟩;have o:=g.2
  cases u:(M.z id).cE with
  | none=>simp only[u] at o |-;exact o
  | some b =>
   simp only[u] at o |-;have:=l b (by simp[aS,k,u]);rw[this.1,this.2]
   exact o
 | jr y =>
  simp only[aJ] at g |-;obtain⟨a,b,xs,e,c,d⟩:=g;have:=l (M.j id) (by simp[aS,k]);rw[m]
  exact⟨a,this.2.trans b,xs,e,this.1.trans c,ah.step h i hi d⟩
 | map L =>
  simp only[aJ] at g |-;obtain⟨b,ents,c,d,d',f⟩:=g;have:=l (M.j id) (by simp[aS,k]);rw[m]
  exact⟨this.2.trans b,ents,this.1.trans c,ah.step h i hi d,ah.step h i hi d',f⟩
 | dE t pos =>
  simp only[aJ] at g |-;have:=l (M.j id) (by simp[aS,k]);rw[m]
  exact⟨this.2.trans g.1,this.1.trans g.2⟩
 | grow y N O =>
  simp only[aJ] at g |-;obtain⟨a,b,B,C,xs,e,c,s,d,D⟩:=g;have:=l (M.j id) (by simp[aS,k]);rw[m,v]
  exact⟨a,this.2.trans b,B,C,xs,e,this.1.trans c,s,ah.step h i hi d,D⟩
 | loop P Q as bo st =>
  simp only[aJ] at g |-;obtain⟨a,r,E,o,F,G,I,J⟩:=g;have:=l (M.j id) (by simp[aS,k]);rw[m,h.fm];exact⟨this.2.trans a,r,this.1.trans E,o,F,G,I,fun p K=>aq.step h i hi (J p K)⟩
structure iP (w w':World):Prop where
 os:w'.os=w.os
 tape:w'.tape=w.tape
 output:w'.output=w.output
 size:w.heap.size<=w'.heap.size
 block:∀ b,b<w.heap.size->w'.heap[b]?=w.heap[b]?
def iP.refl(w:World):iP w w:=⟨rfl,rfl,rfl,aae _,fun _ _=>rfl⟩
def iP.drew(w:World):iP w w.drew:=⟨rfl,rfl,rfl,aae _,fun _ _=>rfl⟩
def iP.alloc(w:World)(o:Obj):iP w (w.alloc o):=⟨rfl,rfl,rfl,ir,fun b a=>Below.heap_alloc w o b a⟩
def iP.trans{a b c:World}(h:iP a b)(k:iP b c):iP a c :=
 ⟨k.os.trans h.os,k.tape.trans h.tape,k.output.trans h.output,aa_ h.size k.size,fun i hi=>(k.block i (aaI hi h.size)).trans (h.block i hi)⟩
def iP.cell(h:iP w w'){b o:Nat}(a:b<w.heap.size):w'.cell? ⟨b,o,none⟩=w.cell? ⟨b,o,none⟩ :=
 World.cell?_of_block (w:=w) (h.block b a)
def aF.fX(h:aF M w H){b:Nat}(g:uM M H b):b<w.heap.size:=by
 obtain⟨id,c⟩:=g;unfold aS at c;split at c
 ·rename_i n d;have:=h.rel id _ d;simp only[aJ,c] at this;obtain⟨_,_,_,_,_,xs,e,a,_⟩:=this;exact(aaz.1 a).1
 ·rename_i i j d;have:=h.rel id _ d;simp only[aaa.injEq] at c;subst c
  cases i with
  | zone n=>exact absurd rfl (j n)
  | cells f=>simp only[aJ] at this;obtain⟨_,_,xs,e,a,_⟩:=this;exact(aaz.1 a).1
  | jr f=>simp only[aJ] at this;obtain⟨_,_,xs,e,a,_⟩:=this;exact(aaz.1 a).1
  | map k=>simp only[aJ] at this;obtain⟨_,ents,a,_⟩:=this;exact(aaz.1 a).1
  | dE t pos=>simp only[aJ] at this;exact(aaz.1 this.2).1
  | loop l m as bo st=>simp only[aJ] at this;obtain⟨_,r,a,_⟩:=this;exact(aaz.1 a).1
  | grow f o p=>simp only[aJ] at this;obtain⟨_,_,_,_,xs,e,a,_⟩:=this;exact(aaz.1 a).1
 ·cases c
structure Same (M M':Mm) (n:Nat):Prop where
 al:M'.al=M.al
 j:M'.j=M.j
 z:M'.z=M.z
 fm:M'.fm=M.fm
 gP:∀ b,b<n->M'.gP b=M.gP b
def Same.refl(M:Mm)(n:Nat):Same M M n:=⟨rfl,rfl,rfl,rfl,fun _ _=>rfl⟩
def Same.bl{n:Nat}(s:Same M M' n)(id:Nat):aS M' H id=aS M H id:=by simp only[aS,s.j,s.z]
def M7(d:aF M w H)(g:iP w w')(s:Same M M' w.heap.size):eH M H w M' H w'/\e_ M M' H.length/\aF M' w' H:=by
 have c:eH M H w M' H w':={
  os:=g.os
  tape:=g.tape
  output:=g.output
  size:=g.size
  same:=fun b a _=>g.block b a
  cells:=fun b l o a _ _=>g.cell a
  oe:=fun b a e=>(s.gP b a).trans e
  jx:=fun b l a e=>⟨l,(s.gP b a).trans e,aae _⟩
  limo:=fun b a _=>s.gP b a
  own:=fun b _ k=>by obtain⟨id,bI⟩:=k;exact⟨id,by rw[<-s.bl];exact bI⟩
  fm:=s.fm }
 have bI:e_ M M' H.length:=fun id _ m=>⟨by rw[s.al];exact m,by rw[s.j],by rw[s.z];exact vk.refl _⟩;refine⟨c,bI,⟨fun id=>by rw[s.al];exact d.rO id,fun id q a=>?_,fun id n b f h=>?_,d.oQ.step c d bI⟩⟩
 ·refine aJ.step c d bI a (fun b p=>?_) (by rw[s.z]);have i:=d.fX ⟨id,p⟩;exact⟨g.block b i,s.gP b i⟩
 ·rw[s.bl] at f h;exact d.inj id n b f h
def Mm.jx(M:Mm)(b:Nat)(l:Option Nat):Mm:={ M with gP:=fun k=>if k=b then l else M.gP k }
def Same.jx(M:Mm)(n:Nat)(l:Option Nat):Same M (M.jx n l) n:=⟨rfl,rfl,rfl,rfl,fun b a=>by simp only[Mm.jx];rw[if_neg an]⟩
def Mm.iV(M:Mm)(id b:Nat):Mm :=
 { M with al:=fun i=>decide (i=id)||M.al i,j:=fun i=>if i=id then b else M.j i,gP:=fun k=>if k=b then some 0 else M.gP k }
def Rk(b:aF M w H){id:Nat}(c:lK H id=true):M.al id=false:=by
 cases h:M.al id with
 | false=>rfl
 | true =>
  obtain⟨d,a⟩:=(b.rO id).1 h;rw[uO.1 c] at a;cases a
def HB{id:Nat}(a:lK H id=true):id<H.length:=(aab.1 (uO.1 a)).1
def aw.oY:aw->Bool
 | .zone _=>true
 | _=>false
def M8(c:aF M w H){id:Nat}(s:lK H id=true){blk0:aw}{ob:Obj}(n:blk0.oY=false)
  (t:eH M H w (M.iV id w.heap.size) (H.set id (some blk0)) (w.alloc ob)->e_ M (M.iV id w.heap.size) H.length->aJ (M.iV id w.heap.size) (w.alloc ob) id blk0) :
  eH M H w (M.iV id w.heap.size) (H.set id (some blk0)) (w.alloc ob)/\e_ M (M.iV id w.heap.size) H.length /\
  aF (M.iV id w.heap.size) (w.alloc ob) (H.set id (some blk0)):=by
 have u:=Rk c s;have p:=HB s;have g:=iP.alloc w ob
 have f:∀ i,i≠id->aS (M.iV id w.heap.size) (H.set id (some blk0)) i=aS M H i:=by
  intro i hi;unfold aS;rw[getElem?_set_ne hi]
  split<;>simp_all [Mm.iV]
 have q:aS (M.iV id w.heap.size) (H.set id (some blk0)) id=some w.heap.size:=by
  unfold aS;rw[aap p]
  cases blk0<;>first|(simp[aw.oY] at n;done)|simp[Mm.iV]
 have d:eH M H w (M.iV id w.heap.size) (H.set id (some blk0)) (w.alloc ob):={
  os:=g.os
  tape:=g.tape
  output:=g.output
  size:=g.size
  same:=fun b a _=>g.block b a
  cells:=fun b l o a _ _=>g.cell a
  oe:=fun b a r=>by simp only[Mm.iV];rw[if_neg an];exact r
  jx:=fun b l a r=>⟨l,by simp only[Mm.iV];rw[if_neg an];exact r,aae _⟩
  limo:=fun b a _=>by simp only[Mm.iV];rw[if_neg an]
  own:=fun b a v=>by
   obtain⟨i,hi⟩:=v
   by_cases e:i=id
   ·subst e;rw[q] at hi;cases hi;omega
   ·rw[f i e] at hi;exact⟨i,hi⟩
  fm:=rfl }
 have m:e_ M (M.iV id w.heap.size) H.length:=fun i _ hi=>by
  have:i≠id:=fun e=>by subst e;rw[u] at hi;cases hi
  simp only[Mm.iV,hi,ach,true_and,if_neg this];exact vk.refl _
 refine⟨d,m,⟨fun i=>?_,fun i y a=>?_,fun i h b j k=>?_,c.oQ.step d c m⟩⟩
 ·by_cases e:i=id
  ·subst e;simp only[Mm.iV,decide_true,aaM,true_iff];exact⟨_,aap p⟩
  ·simp only[Mm.iV,e,decide_false,acd];rw[getElem?_set_ne e];exact c.rO i
 ·by_cases e:i=id
  ·subst e;rw[aap p] at a;simp only[aaa.injEq] at a;subst a;exact t d m
  ·rw[getElem?_set_ne e] at a;refine aJ.step d c m a (fun b f=>?_) rfl;have x:=c.fX ⟨i,f⟩;refine⟨g.block b x,?_⟩;simp only[Mm.iV];rw[if_neg an]
 ·by_cases e:i=id
  ·by_cases e':h=id
   ·omega
   ·subst e;rw[q] at j;rw[f h e'] at k;cases j;have:=c.fX ⟨h,k⟩;omega
  ·by_cases e':h=id
   ·subst e';rw[q] at k;rw[f i e] at j;cases k;have:=c.fX ⟨i,j⟩;omega
   ·rw[f i e] at j;rw[f h e'] at k;exact c.inj i h b j k
def zuD{cs:List V}{xs:List Value}(h:ah M w cs xs):xs.take cs.length=xs:=by rw[<-ic h];exact List.take_length
def Rl(b:aF M w H){id:Nat}(e:lK H id=true){cs:List V}{xs:Array Value}{t:TypeId}(d:ah M w cs xs.toList)(f:∀ c∈cs,c.fC=true) :
  eH M H w (M.iV id w.heap.size) (H.set id (some (.cells cs))) (w.alloc (.cells xs t))/\e_ M (M.iV id w.heap.size) H.length /\
  aF (M.iV id w.heap.size) (w.alloc (.cells xs t)) (H.set id (some (.cells cs))):=by
 refine M8 b e rfl fun a g=>?_;simp only[aJ];refine⟨f,by simp[Mm.iV],xs,t,?_,ah.step a b g (by rw[zuD d];exact d)⟩;simp only[Mm.iV,if_true];exact heap_alloc_new w _
def Mm.cH(M:Mm)(b l:Nat):Mm:={ M with gP:=fun k=>if k=b then some l else M.gP k }
def Rm(d:aF M w H){id:Nat}{blk0 blk1:aw}(n:H[id]?=some (some blk0))(v:blk0.oY=false)(g:blk1.oY=false)(p:M.gP (M.j id)=some 0)(l:Nat)
  (os:w'.os=w.os) (tape:w'.tape=w.tape) (output:w'.output=w.output) (size:w'.heap.size=w.heap.size) (q:∀ b,b≠M.j id->w'.heap[b]?=w.heap[b]?)
  (x:eH M H w (M.cH (M.j id) l) (H.set id (some blk1)) w'->e_ M (M.cH (M.j id) l) H.length->aJ (M.cH (M.j id) l) w' id blk1) :
  eH M H w (M.cH (M.j id) l) (H.set id (some blk1)) w'/\e_ M (M.cH (M.j id) l) H.length/\aF (M.cH (M.j id) l) w' (H.set id (some blk1)):=by
 have r:id<H.length:=(aab.1 n).1;have y:M.al id=true:=(d.rO id).2 ⟨_,n⟩
 have h:aS M H id=some (M.j id):=by
  unfold aS;rw[n]
  cases blk0<;>first|(simp[aw.oY] at v;done)|rfl
 have s:∀ i,aS (M.cH (M.j id) l) (H.set id (some blk1)) i=aS M H i:=by
  intro i
  by_cases e:i=id
  ·subst e;rw[h];unfold aS;rw[aap r]
   cases blk1<;>first|(simp[aw.oY] at g;done)|rfl
  ·unfold aS;rw[getElem?_set_ne e];rfl
 have c:eH M H w (M.cH (M.j id) l) (H.set id (some blk1)) w':={
  os:=os
  tape:=tape
  output:=output
  size:=by rw[size];exact aae _
  same:=fun b _ f=>q b (fun e=>f ⟨id,by rw[h,e]⟩)
  cells:=fun b l o _ a f=>by
   by_cases e:b=M.j id
   ·subst e;rw[p] at a;cases a;omega
   ·exact World.cell?_of_block (w:=w) (q b e)
  oe:=fun b _ a=>by
   simp only[Mm.cH]
   rw[if_neg];· exact a
   intro e;subst e;rw[p] at a;cases a
  jx:=fun b z _ a=>by
   simp only[Mm.cH]
   by_cases e:b=M.j id
   ·subst e;rw[p] at a;cases a;exact⟨l,ir,abF _⟩
   ·exact⟨z,by rw[if_neg e];exact a,aae _⟩
  limo:=fun b _ f=>by
   simp only[Mm.cH];rw[if_neg];intro e;exact f ⟨id,by rw[h,e]⟩
  own:=fun b _ f=>by obtain⟨i,hi⟩:=f;exact⟨i,by rw[<-s];exact hi⟩
  fm:=rfl }
 have k:e_ M (M.cH (M.j id) l) H.length:=fun i _ hi=>⟨hi,rfl,vk.refl _⟩;refine⟨c,k,⟨fun i=>?_,fun i C hi=>?_,fun i A b g t=>?_,d.oQ.step c d k⟩⟩
 ·by_cases e:i=id
  ·subst e;simp only[Mm.cH,y,true_iff];exact⟨_,aap r⟩
  ·rw[getElem?_set_ne e];exact d.rO i
 ·by_cases e:i=id
  ·subst e;rw[aap r] at hi;simp only[aaa.injEq] at hi;subst hi;exact x c k
  ·rw[getElem?_set_ne e] at hi
   have u:∀ b,aS M H i=some b->b≠M.j id:=fun b m B=>by subst B;exact e (d.inj i id _ m h)
   refine aJ.step c d k hi (fun b m=>⟨q b (u b m),?_⟩) rfl;simp only[Mm.cH];rw[if_neg (u b m)]
 ·rw[s] at g t;exact d.inj i A b g t
def Wv(a:aF M w H){id:Nat}{cs ds:List V}(g:H[id]?=some (some (.cells cs))){xs:Array Value}{t:TypeId}
  (v:w.heap[M.j id]?=some (.cells xs t (0,0))) {ys:Array Value} (hd:ah M w ds (ys.toList.take ds.length)) (x:∀ c∈ds,c.fC=true) :
  eH M H w M (H.set id (some (.cells ds))) (w.setRow (M.j id) ys)/\e_ M M H.length/\aF M (w.setRow (M.j id) ys) (H.set id (some (.cells ds))):=by
 have p:M.al id=true:=(a.rO id).2 ⟨_,g⟩;have h:=a.lt p
 have m:aS M H id=some (M.j id):=by simp[aS,g]
 have q:∀ i,aS M (H.set id (some (.cells ds))) i=aS M H i:=by
  intro i
  by_cases e:i=id
  ·subst e;rw[m];unfold aS;rw[aap h]
  ·unfold aS;rw[getElem?_set_ne e]
 have r:M.gP (M.j id)=some 0:=by have:=a.rel id _ g;simp only[aJ] at this;exact this.2.1
 have n:∀ k,k≠M.j id->(w.setRow (M.j id) ys).heap[k]?=w.heap[k]?:=fun k y=>setRow_other w (M.j id) k ys (fun e=>y e)
 have d:eH M H w M (H.set id (some (.cells ds))) (w.setRow (M.j id) ys):={
  os:=rfl
  tape:=rfl
  output:=rfl
  size:=by simp[World.setRow]
  same:=fun b z f=>n b (fun e=>f ⟨id,by rw[m,e]⟩)
  cells:=fun b l o z hl f=>by
   by_cases e:b=M.j id
   ·subst e;rw[r] at hl;cases hl;omega
   ·exact World.cell?_of_block (w:=w) (n b e)
  oe:=fun _ _ hl=>hl
  jx:=fun b l _ hl=>⟨l,hl,aae _⟩
  limo:=fun _ _ _=>rfl
  own:=fun b _ f=>by obtain⟨i,hi⟩:=f;exact⟨i,by rw[<-q];exact hi⟩
  fm:=rfl }
 refine⟨d,e_.refl _ _,⟨fun i=>?_,fun i D hi=>?_,fun i A b s u=>?_,a.oQ.step d a (e_.refl _ _)⟩⟩
 ·by_cases e:i=id
  ·subst e;simp only[p,true_iff];exact⟨_,aap h⟩
  ·rw[getElem?_set_ne e];exact a.rO i
 ·by_cases e:i=id
  ·subst e;rw[aap h] at hi;simp only[aaa.injEq] at hi;subst hi;simp only[aJ];exact⟨x,r,ys,t,setRow_heap w (M.j i) xs ys t _ v,ah.step d a (e_.refl _ _) hd⟩
  ·rw[getElem?_set_ne e] at hi;refine aJ.step d a (e_.refl _ _) hi (fun b B=>⟨n b (fun C=>?_),rfl⟩) rfl;subst C;exact e (a.inj i id _ B m)
 ·rw[q] at s u;exact a.inj i A b s u
def Mm.mN(M:Mm)(id:Nat)(z:Z):Mm :=
 { M with al:=fun i=>decide (i=id)||M.al i,z:=fun i=>if i=id then z else M.z i,
          gP:=fun k=>if z.cE=some k then some (z.n*z.sz) else M.gP k }
def Ww(c:aF M w H){id:Nat}{z:Z}(r:lK H id=true\/∃ k,H[id]?=some (some (.zone k)))
  (os:w'.os=w.os) (tape:w'.tape=w.tape) (output:w'.output=w.output) (size:w.heap.size<=w'.heap.size)
  (u:∀ b,b<w.heap.size->aS M H id≠some b->w'.heap[b]?=w.heap[b]?)
  (E:∀ b l o,aS M H id=some b->M.gP b=some l->o<l->w'.cell? ⟨b,o,none⟩=w.cell? ⟨b,o,none⟩)
  (f:∀ b,z.cE=some b->w.heap.size<=b\/aS M H id=some b)
  (F:∀ b l,aS M H id=some b->z.cE=some b->M.gP b=some l->l<=z.n*z.sz)
  (v:M.al id=true->vk (M.z id) z)
  (t:match z.cE with
   | none=>z.cap=z.n
   | some b=>0<z.n/\z.n<=z.cap/\0<z.sz/\∃ xs e,w'.heap[b]?=some (.cells xs e (0,0))/\xs.size=z.cap*z.sz) :
  eH M H w (M.mN id z) (H.set id (some (.zone z.n))) w'/\e_ M (M.mN id z) H.length/\aF (M.mN id z) w' (H.set id (some (.zone z.n))):=by
 have G:id<H.length:=by
  rcases r with r|⟨k,r⟩
  ·exact HB r
  ·exact(aab.1 r).1
 have x:(H.set id (some (aw.zone z.n)))[id]?=some (some (.zone z.n)):=aap G
 have y:aS (M.mN id z) (H.set id (some (.zone z.n))) id=z.cE:=by simp only[aS,x,Mm.mN,if_true]
 have s:∀ i,i≠id->aS (M.mN id z) (H.set id (some (.zone z.n))) i=aS M H i:=by
  intro i hi;unfold aS;rw[getElem?_set_ne hi]
  split<;>simp_all [Mm.mN]
 have g:eH M H w (M.mN id z) (H.set id (some (.zone z.n))) w':={
  os:=os
  tape:=tape
  output:=output
  size:=size
  same:=fun b a j=>u b a (fun e=>j ⟨id,e⟩)
  cells:=fun b l o a m j=>by
   by_cases e:aS M H id=some b
   ·exact E b l o e m j
   ·exact World.cell?_of_block (w:=w) (u b a e)
  oe:=fun b a m=>by
   simp only[Mm.mN]
   rw[if_neg];· exact m
   intro e
   rcases f b e with h|h
   ·omega
   ·obtain⟨l,h_⟩:=c.sQ ⟨id,h⟩;rw[m] at h_;cases h_
  jx:=fun b l a m=>by
   by_cases e:z.cE=some b
   ·refine⟨z.n*z.sz,by simp only[Mm.mN,e,if_true],?_⟩
    rcases f b e with h|h
    ·omega
    ·exact F b l h e m
   ·exact⟨l,by simp only[Mm.mN];rw[if_neg e];exact m,aae _⟩
  limo:=fun b a j=>by
   simp only[Mm.mN];rw[if_neg];intro e
   rcases f b e with h|h
   ·omega
   ·exact j ⟨id,h⟩
  own:=fun b a j=>by
   obtain⟨i,hi⟩:=j
   by_cases e:i=id
   ·subst e;rw[y] at hi
    rcases f b hi with h|h
    ·omega
    ·exact⟨i,h⟩
   ·rw[s i e] at hi;exact⟨i,hi⟩
  fm:=rfl }
 have A:e_ M (M.mN id z) H.length:=fun i _ hi=>by
  refine⟨by simp only[Mm.mN,hi,ach],rfl,?_⟩;simp only[Mm.mN];split
  ·rename_i e;subst e;exact v hi
  ·exact vk.refl _
 refine⟨g,A,⟨fun i=>?_,fun i J a=>?_,fun i d b p q=>?_,c.oQ.step g c A⟩⟩
 ·by_cases e:i=id
  ·subst e;simp only[Mm.mN,decide_true,aaM,true_iff];exact⟨_,x⟩
  ·simp only[Mm.mN,e,decide_false,acd];rw[getElem?_set_ne e];exact c.rO i
 ·by_cases e:i=id
  ·subst e;rw[x] at a;simp only[aaa.injEq] at a;subst a;simp only[aJ,Mm.mN,if_true,true_and]
   cases B:z.cE with
   | none=>simp only[B] at t |-;exact t
   | some b=>simp only[B,if_true,true_and] at t |-;exact t
  ·rw[getElem?_set_ne e] at a;refine aJ.step g c A a (fun b C=>?_) (by simp only[Mm.mN];rw[if_neg e]);have I:=c.fX ⟨i,C⟩;have D:aS M H id≠some b:=fun h=>e (c.inj i id b C h);refine⟨u b I D,?_⟩;simp only[Mm.mN];rw[if_neg];intro h
   rcases f b h with h|h
   ·omega
   ·exact D h
 ·by_cases e:i=id
  ·by_cases e':d=id
   ·omega
   ·subst e;rw[y] at p;rw[s d e'] at q
    rcases f b p with h|h
    ·have:=c.fX ⟨d,q⟩;omega
    ·exact(c.inj i d b h q)
  ·by_cases e':d=id
   ·subst e';rw[y] at q;rw[s i e] at p
    rcases f b q with h|h
    ·have:=c.fX ⟨i,p⟩;omega
    ·exact(c.inj i d b p h)
   ·rw[s i e] at p;rw[s d e'] at q;exact c.inj i d b p q
def Wx(M:Mm)(H:ae)(m i:Nat):aS M (H++aan m none) i=aS M H i:=by
 unfold aS
 by_cases hi:i<H.length
 ·rw[aaJ hi]
 ·rw[aaW an,abI (by omega:H.length<=i),abB]
  by_cases h:i-H.length<m<;>simp[h]
def zw4(H:ae)(m i:Nat)(a:aw):(H++aan m none)[i]?=some (some a)↔H[i]?=some (some a):=by
 by_cases hi:i<H.length
 ·rw[aaJ hi]
 ·rw[aaW an,abI (by omega:H.length<=i),abB]
  by_cases h:i-H.length<m<;>simp[h]
def Rn(a:aF M w H)(m:Nat):aF M w (H++aan m none) :=
 ⟨fun i=>(a.rO i).trans (exists_congr fun c=>(zw4 H m i c).symm),fun i c d=>a.rel i c ((zw4 H m i c).1 d),
  fun i e b f g=>a.inj i e b (by rw[<-Wx M H m];exact f) (by rw[<-Wx M H m];exact g),a.oQ⟩
def Wy(M:Mm)(H:ae)(w:World)(m:Nat):eH M H w M (H++aan m none) w :=
 have own:∀ b,uM M (H++aan m none) b->uM M H b:=fun b ⟨i,hi⟩=>⟨i,by rw[<-Wx M H m];exact hi⟩
 { eH.refl M H w with own:=fun b _ a=>own b a }
def Mm.upto(M:Mm)(n:Nat):Mm:={ M with al:=fun i=>decide (i<n)&&M.al i }
def V.qy(n:Nat)(c:V)(h:c.fC=true):(c.cl n).fC=true:=by cases c<;>first|(simp[V.fC] at h;done)|rfl|(simp only[V.cl];split<;>rfl)
def V.qz(n:Nat)(c:V)(h:c.pure=true):c.cl n=c:=by
 cases c<;>first
  | rfl
  | (simp[V.pure] at h;done)
  | (rename_i b tk;cases tk<;>first|rfl|(simp[V.pure] at h;done))
  | (rename_i f a;cases a<;>first|rfl|(simp[V.pure] at h;done))
def ia(n:Nat):∀ cs:List V,aX n cs=cs.map (V.cl n)
 | []=>rfl
 | c::cs=>by simp[aX,ia n cs]
def mq.upto{n:Nat}{es:List (List V)}{a:Option Addr}{cap:Nat}{tk:Tk}(h:mq M es a cap tk) :
  mq (M.upto n) es a cap (tk.cl n):=by
 cases tk with
 | no=>trivial
 | full=>exact h
 | own q =>
  simp only[Tk.cl];split
  ·rename_i d;obtain⟨a,b,c⟩:=h;exact⟨by simp[Mm.upto,d,a],b,c⟩
  ·trivial
mutual
def aq.upto(n:Nat):∀{c:V} {x:Value},aq M w c x->aq (M.upto n) w (c.cl n) x
 | .undef,_,_=>by simp only[V.cl,aq]
 | .mh,_,e=>by simpa only[V.cl,aq] using e
 | .any,_,e=>by simpa only[V.cl,aq] using e
 | .int _ _,_,e=>by simpa only[V.cl,aq] using e
 | .bool _,_,e=>by simpa only[V.cl,aq] using e
 | .str _,_,e=>by simpa only[V.cl,aq] using e
 | .nilp,_,e=>by simpa only[V.cl,aq] using e
 | .nilf,_,e=>by simpa only[V.cl,aq] using e
 | .nilm,_,e=>by simpa only[V.cl,aq] using e
 | .mp id,_,e=>by
  simp only[V.cl];simp only[aq] at e;split
  ·rename_i h;simp only[aq];exact⟨by simp[Mm.upto,h,e.1],e.2⟩
  ·simp only[aq];rw[e.2];rfl
 | .yld id,_,e=>by
  simp only[V.cl];simp only[aq] at e;split
  ·rename_i h;simp only[aq];exact⟨by simp[Mm.upto,h,e.1],e.2⟩
  ·simp only[aq];rw[e.2];rfl
 | .gs id k,_,e=>by
  simp only[V.cl];simp only[aq] at e;split
  ·rename_i h;simp only[aq];exact⟨by simp[Mm.upto,h,e.1],e.2⟩
  ·simp only[aq];obtain⟨_,d,rfl,_⟩:=e;rfl
 | .ptr id l,_,e=>by
  simp only[V.cl];simp only[aq] at e;split
  ·rename_i h;simp only[aq];exact⟨by simp[Mm.upto,h,e.1],e.2⟩
  ·simp only[aq];rw[e.2];rfl
 | .rs id l k _,_,e=>by
  simp only[V.cl];simp only[aq] at e;split
  ·rename_i h;simp only[aq];exact⟨by simp[Mm.upto,h,e.1],e.2⟩
  ·simp only[aq];obtain⟨_,d,rfl,_⟩:=e;rfl
 | .cptr m,_,e=>by
  simp only[V.cl,aq] at e |-;obtain⟨p,b,o,g,e⟩:=e
  exact⟨p,b,o,g,fI.upto n p e⟩
 | .vs s tk,_,e=>by
  simp only[V.cl,aq] at e |-;obtain⟨p,a,d,g,i,j,q⟩:=e;refine⟨p,a,d,g,i,?_,q.upto⟩
  cases a with
  | none=>exact j
  | some t=>exact⟨j.1,j.2.1,gr.upto n p j.2.2⟩
 | .fn f d,_,e=>by
  simp only[V.cl,aq] at e |-;obtain⟨xs,g,e⟩:=e
  exact⟨xs,g,ah.upto n e⟩
 | .agg m,_,e=>by
  simp only[V.cl,aq] at e |-;obtain⟨p,xs,g,e⟩:=e;refine⟨fun c i=>?_,xs,g,ah.upto n e⟩;rw[ia,aa3] at i;obtain⟨c',r,rfl⟩:=i
  exact V.qy n c' (p c' r)
 | .a_ m,_,e=>by
  simp only[V.cl,aq] at e |-;obtain⟨xs,g,e⟩:=e;exact⟨xs,g,ah.upto n e⟩
def ah.upto(n:Nat):∀{cs:List V} {xs:List Value},ah M w cs xs->ah (M.upto n) w (aX n cs) xs
 | [],_,e=>by simpa only[aX,ah] using e
 | c::cs,_,e=>by
  simp only[aX,ah] at e |-;obtain⟨x,a,b,d,f⟩:=e;exact⟨x,a,b,aq.upto n d,ah.upto n f⟩
def fI.upto(n:Nat){b:Nat}:∀{cs:List V} {o:Nat},(∀ c∈cs,c.pure=true)->fI M w b cs o->fI (M.upto n) w b cs o
 | [],_,_,_=>by simp only[fI]
 | c::cs,o,p,e=>by
  simp only[fI] at e |-;obtain⟨⟨x,a,rd,f⟩,g⟩:=e;refine⟨⟨x,a,rd,?_⟩,fI.upto n (fun d hd=>p d (by simp[hd])) g⟩;have:=aq.upto n f;rwa[V.qz n c (p c ir)] at this
def gr.upto(n:Nat){b:Nat}:∀{es:List (List V)} {o:Nat},(∀ e∈es,∀ c∈e,c.pure=true)->gr M w b es o->gr (M.upto n) w b es o
 | [],_,_,_=>by simp only[gr]
 | e::es,o,p,k=>by
  simp only[gr] at k |-;exact⟨fI.upto n (p e ir) k.1,gr.upto n (fun d hd=>p d (by simp[hd])) k.2⟩
end
def Ro(n:Nat)(H:ae)(i:Nat):(aj n H)[i]?=if i<n then(H[i]?).map (ab9 (aw.cl n)) else none:=by
 unfold aj;rw[aav,aaB]
 split<;>simp
def zzX(M:Mm)(H:ae)(n i b:Nat)(h:aS (M.upto n) (aj n H) i=some b):aS M H i=some b:=by
 unfold aS at h |-;rw[Ro] at h
 by_cases hi:i<n
 ·rw[if_pos hi] at h
  cases a:H[i]? with
  | none=>simp[a] at h
  | some o=>cases o with
   | none=>simp[a] at h
   | some c=>cases c<;>simpa[a,aw.cl,Mm.upto] using h
 ·rw[if_neg hi] at h;cases h
def AR(A:aF M w H)(n:Nat):eH M H w (M.upto n) (aj n H) w/\e_ M (M.upto n) n/\aF (M.upto n) w (aj n H):=by
 have jk:=zzX M H n
 have C:eH M H w (M.upto n) (aj n H) w :=
  { eH.refl M H w with
   oe:=fun _ _ h=>h
   jx:=fun _ l _ h=>⟨l,h,aae _⟩
   limo:=fun _ _ _=>rfl
   own:=fun b _ J=>by obtain⟨i,hi⟩:=J;exact⟨i,jk i b hi⟩
   fm:=rfl }
 have y:∀ u:List V,(∀ c∈u,c.fC=true)->∀ c∈aX n u,c.fC=true:=fun u a v z=>by
  rw[ia,aa3] at z;obtain⟨c',B,rfl⟩:=z;exact V.qy n c' (a c' B)
 refine⟨C,fun i hi K=>⟨by simp[Mm.upto,hi,K],rfl,vk.refl _⟩,⟨fun i=>?_,fun i D j=>?_,fun i G b E F=>A.inj i G b (jk i b E) (jk G b F),fun g u L=>?_⟩⟩
 ·rw[Ro]
  by_cases hi:i<n
  ·simp only[Mm.upto,hi,decide_true,ace,if_true];rw[A.rO i];constructor
   ·rintro⟨D,j⟩;exact⟨D.cl n,by simp[j]⟩
   ·rintro⟨D,j⟩
    cases x:H[i]? with
    | none=>simp[x] at j
    | some o=>cases o with
     | none=>simp[x] at j
     | some b=>exact⟨b,rfl⟩
  ·simp[Mm.upto,hi]
 ·rw[Ro] at j;split at j
  ·rename_i hi
   cases x:H[i]? with
   | none=>simp[x] at j
   | some o=>cases o with
    | none=>simp[x] at j
    | some I =>
     simp only[x,aaZ,aaa.injEq] at j;subst j;have m:=A.rel i I x
     cases I with
     | cells u =>
      simp only[aJ,aw.cl] at m |-;obtain⟨a,b,xs,e,c,d⟩:=m
      exact⟨y u a,b,xs,e,c,by rw[ia,aaQ,<-ia];exact ah.upto n d⟩
     | grow u X Y =>
      simp only[aJ,aw.cl] at m |-;obtain⟨a,b,N,O,xs,e,c,s,d,P⟩:=m
      exact⟨y u a,b,N,O,xs,e,c,s,by rw[ia,aaQ,<-ia];exact ah.upto n d,by rw[ia,aaQ];exact P⟩
     | zone k=>simpa only[aJ,aw.cl,Mm.upto] using m
     | jr u =>
      simp only[aJ,aw.cl] at m |-;obtain⟨a,b,xs,e,c,d⟩:=m;refine⟨fun v z=>?_,by rw[ia,aaQ];exact b,xs,e,c,by rw[ia,aaQ,<-ia];exact ah.upto n d⟩;rw[ia,aa3] at z;obtain⟨c',B,rfl⟩:=z
      rw[V.qz n c' (a c' B)];exact a c' B
     | map Z =>
      simp only[aJ,aw.cl] at m |-;obtain⟨b,ents,c,d,d',f⟩:=m;refine⟨b,ents,by rw[aaQ];exact c,?_,?_,f⟩
      ·have:=ah.upto n d;rw[ia,abt] at this;rw[abt];exact this
      ·have:=ah.upto n d';rw[ia,abt] at this
       rw[abt];exact this
     | dE t pos=>simpa only[aJ,aw.cl,Mm.upto] using m
     | loop e0 ps as bo st =>
      simp only[aJ,aw.cl] at m |-;obtain⟨a,r,Q,E,F,R,S,T⟩:=m;refine⟨a,r,Q,E,F,R,S,fun p U=>?_⟩;obtain⟨q,W,rfl⟩:=aa3.1 U;exact aq.upto n (T q W)
  ·cases j
 ·have:=aq.upto n (A.oQ g u L);simpa only[V.cl] using this
open Go Go.RowKit
variable {P:Program} {M M':Mm} {H H1:ae} {w w':World}
def tS:Value->V->Bool
 | .int k n,.int a c=>k==a&&n==c
 | .bool b,.bool d=>b==d
 | .string s,.str s'=>decide (s.data.toList=s')
 | .pointer none,.nilp=>true
 | .slice none 0 0,.vs [] .full=>true
 | .nilFunc,.nilf=>true
 | .map none,.nilm=>true
 | _,_=>false
def r_:List Value->List V->Bool
 | [],[]=>true
 | x::xs,c::a=>tS x c&&r_ xs a
 | _,_=>false
def HE:Value->V->Bool
 | .agg xs,.agg a=>r_ xs.toList a
 | x,c=>tS x c
def Rp{x:Value}{c:V}(h:tS x c=true):aq M w c x:=by
 unfold tS at h
 split at h<;>(try simp only[aaw,aah,beq_iff_eq,decide_eq_true_eq] at h)
 ·obtain⟨rfl,rfl⟩:=h;simp only[aq]
 ·subst h;simp only[aq]
 ·subst h;simp only[aq]
 ·simp only[aq]
 ·simp only[aq];exact⟨ir,none,0,rfl,aae _,ir,by simp[mq]⟩
 ·simp only[aq]
 ·simp only[aq]
def zzY{x:Value}{c:V}(h:tS x c=true):c.pure=true:=by
 unfold tS at h
 split at h<;>first|rfl|simp at h
def Fz:∀{xs:List Value} {cs:List V},r_ xs cs=true->ah M w cs xs
 | [],[],_=>by simp only[ah]
 | [],_::_,h=>by simp[r_] at h
 | _::_,[],h=>by simp[r_] at h
 | x::xs,c::cs,h=>by
  simp only[r_,aah] at h;simp only[ah];exact⟨x,xs,rfl,Rp h.1,Fz h.2⟩
def HF:∀{xs:List Value} {cs:List V},r_ xs cs=true->∀ c∈cs,c.pure=true
 | [],[],_=>by simp
 | [],_::_,h=>by simp[r_] at h
 | _::_,[],h=>by simp[r_] at h
 | x::xs,c::cs,h=>by
  simp only[r_,aah] at h;intro d hd;simp only[acg] at hd
  rcases hd with rfl|hd
  ·exact zzY h.1
  ·exact HF h.2 d hd
def zCc{x:Value}{c:V}(h:HE x c=true):aq M w c x:=by
 unfold HE at h;split at h
 ·rename_i xs b;simp only[aq];exact⟨fun c a=>V.cr (HF h c a),xs.toList,ir,Fz h⟩
 ·exact Rp h
def zCd{a b:V}(h:a.eqc b=some true):a=b:=by
 cases a<;>cases b<;>simp only[V.eqc,reduceCtorEq,aaa.injEq] at h
 ·split at h
  ·rename_i c;subst c;simp at h;subst h;rfl
  ·cases h
 ·simp at h;subst h;rfl
 ·simp at h;subst h;rfl
def zsS:∀{as c:List V},y0 as c=some true->as=c
 | [],[],_=>rfl
 | [],_::_,h=>by simp[y0] at h
 | _::_,[],h=>by simp[y0] at h
 | a::as,b::c,h=>by
  simp only[y0] at h;split at h
  ·rename_i x y d e;simp only[aaa.injEq,aah] at h;obtain⟨rfl,rfl⟩:=h;rw[zCd d,zsS e]
  ·cases h
def aG(fm:Fm):Operand->X->Bool
 | .tmp t,.t i=>t==i
 | .const v,.c c=>HE v c
 | .func f,.c (.fn a [])=>f==fm a
 | .global g,.c (.cptr b)=>match fm.gl g with|some ds=>y0 ds b==some true|none=>false
 | _,_=>false
structure bj (M:Mm) (w:World) (e:Env) (a:Act) (n:Nat):Prop where
 size:a.tmps.size=n
 defers:a.defers.Nodup/\∀ d∈a.defers,∃ D,d={ target:=.collected D,args:=#[] }/\w.heap[D]?=some (.deferred (some []))
 rel:∀ i,aq M w (e i) (a.tmps.getD i undef)
 oQ:Cx M w
def fL{e:Env}{a:Act}{n:Nat}{o:Operand}{x:X}(h:aG M.fm o x=true)(b:bj M w e a n):aq M w (x.ev e) (a.eval o):=by
 unfold aG at h
 split at h<;>(try simp only[beq_iff_eq,aaw] at h)
 ·subst h;exact b.rel _
 ·exact zCc h
 ·subst h;simp only[X.ev,aq,Act.eval];exact⟨[],rfl,by simp only[ah]⟩
 ·split at h
  ·rename_i ds hd;have:=zsS (by simpa using h);subst this;exact b.oQ _ _ hd
  ·cases h
def qb(fm:Fm):List Operand->List X->Bool
 | [],[]=>true
 | o::a,x::xs=>aG fm o x&&qb fm a xs
 | _,_=>false
def DG{e:Env}{a:Act}{n:Nat}:∀{os:List Operand} {xs:List X},qb M.fm os xs=true->bj M w e a n->ah M w (xs.map (X.ev e)) (os.map a.eval)
 | [],[],_,_=>by simp only[aaE,ah]
 | [],_::_,h,_=>by simp[qb] at h
 | _::_,[],h,_=>by simp[qb] at h
 | o::os,x::xs,h,b=>by
  simp only[qb,aah] at h;simp only[aaA,ah];exact⟨_,_,rfl,fL h.1 b,DG h.2 b⟩
def oi(fm:Fm):Option Operand->Option X->Bool
 | none,none=>true
 | some o,some x=>aG fm o x
 | _,_=>false
def iv(P:Program)(t:TypeId)(sz:Nat)(a:Bool):Bool :=
 match P.underlying t,P.info? t with
 | some d,some i=>i.size==sz&&(if d.isRow then a else !a&&sz==1)
 | _,_=>false
def Wz{c:V}{x:Value}{cs:List V}(h:aq M w c x)(a:c.cells?=some cs):ah M w cs x.cells.toList/\∀ d∈cs,d.fC=true:=by
 cases c<;>simp only[V.cells?,aaa.injEq,reduceCtorEq] at a<;>subst a
 case agg cs=>simp only[aq] at h;obtain⟨p,xs,rfl,h⟩:=h;exact⟨by simpa[Value.cells] using h,p⟩
 all_goals
  have b:=Wq h rfl;refine⟨?_,by simp[V.fC]⟩
  have:x.cells=#[x]:=by cases x<;>simp_all [Value.cells,Value.oneCell']
  rw[this];simp only[ah];exact⟨x,[],rfl,h,rfl⟩
def dh(P:Program)(o:Oper)(a:Act)(M:Mm)(H:ae)(w:World)(v:V)(H1:ae):Prop :=
 ∃ n w' M',(execOp a.eval o).run P w=.ok n w'/\(match n with|.value rv=>aq M' w' v rv|.skip=>v=.undef|_=>False) /\
  eH M H w M' H1 w'/\e_ M M' H.length/\aF M' w' H1
def dh.plain{o:Oper}{a:Act}{v:V}{rv:Value}(b:aF M w H)(h:(execOp a.eval o).run P w=.ok (.value rv) w)(c:aq M w v rv):dh P o a M H w v H :=
 ⟨_,w,M,h,c,eH.refl M H w,e_.refl _ _,b⟩
section
variable {e:Env} {a:Act} {n:Nat} {o:Oper} {v:V}
def zEf{x:Operand}{c:X}(b:o.op=.move x\/o.op=.assign x)(d:aG M.fm x c=true)(f:bj M w e a n)(g:aF M w H):dh P o a M H w (c.ev e) H:=by
 refine .plain (rv:=a.eval x) g ?_ (fL d f)
 rcases b with b|b<;>simp[execOp,b]
def zEU{c x y:Operand}{sc f g:X}(i:o.op=.pick c x y)(j:aG M.fm c sc=true)(k:aG M.fm x f=true)(l:aG M.fm y g=true)(d:bj M w e a n)(m:aF M w H)
  {b:Bool} (p:sc.ev e=.bool b):dh P o a M H w (if b then f.ev e else g.ev e) H:=by
 have h:=fL j d;rw[p] at h;simp only[aq] at h;refine .plain (rv:=if b then a.eval x else a.eval y) m ?_ (by cases b<;>simp[fL k d,fL l d])
 cases b<;>simp[execOp,i,h,asBool]
def zGs{t:TypeId}{x:Operand}{b:X}{id:Nat}{cs:List V}(c:o.op=.box t x)(d:aG M.fm x b=true)(f:bj M w e a n)(g:aF M w H)
  (h:(b.ev e).cells?=some cs) (j:lK H id=true):dh P o a M H w (.ptr id 0) (H.set id (some (.cells cs))):=by
 obtain⟨k,l⟩:=Wz (fL d f) h;obtain⟨s,i,r⟩:=Rl (t:=t) g j k l;refine⟨.value (.pointer (some ⟨w.heap.size,0,none⟩)),_,_,?_,?_,s,i,r⟩
 ·simp[execOp,c,Instr.box,newVar,newRow]
 ·simp only[aq,Mm.iV,decide_true,aaM,if_true,true_and]
def zCe{t:TypeId}{id:Nat}{z:List V}{i:TypeInfo}{b:Value}(e:o.op=.alloc t)(hi:P.info? t=some i)(f:i.zero=some b)(d:r_ b.cells.toList z=true)
  (g:aF M w H) (h:lK H id=true):dh P o a M H w (.ptr id 0) (H.set id (some (.cells z))):=by
 obtain⟨s,j,r⟩:=Rl (t:=t) (xs:=b.cells) g h (Fz (M:=M) (w:=w) d) (fun c k=>V.cr (HF d c k));refine⟨.value (.pointer (some ⟨w.heap.size,0,none⟩)),_,_,?_,?_,s,j,r⟩
 ·simp[execOp,e,Instr.alloc,zeroValue,typeInfo,hi,f,newVar,newRow]
 ·simp only[aq,Mm.iV,decide_true,aaM,if_true,true_and]
def oZ(a:Bool)(xs:List Value):Value:=if a then .agg xs.toArray else xs.headD undef
def M9{b:Bool}{cs:List V}{xs:List Value}(a:mk b cs=some v)(d:ah M w cs xs)(e:∀ c∈cs,c.fC=true):aq M w v (oZ b xs):=by
 unfold mk at a
 cases b with
 | true=>simp only[if_true,aaa.injEq] at a;subst a;simp only[aq,oZ,if_true];exact⟨e,xs,rfl,d⟩
 | false =>
  simp only[aaw,if_false] at a;split at a
  ·simp only[aaa.injEq] at a;subst a;simp only[ah] at d;obtain⟨x,f,rfl,h,rfl⟩:=d;simpa[oZ] using h
  ·cases a
def WA{t:TypeId}{sz:Nat}{e:Bool}{b off:Nat}{xs:List Value}(a:iv P t sz e=true)(f:xs.length=sz)(c:w.rangeAt b off xs) :
  (Instr.loadAt t (.pointer (some ⟨b,off,none⟩))).run P w=.ok (oZ e xs) w:=by
 unfold iv at a;split at a
 ·rename_i d i g hi;simp only[aah,beq_iff_eq] at a;obtain⟨j,a⟩:=a
  by_cases hd:d.isRow=true
  ·rw[if_pos hd] at a;subst a;simp only[oZ,if_true];exact run_loadAt_mid w b off t xs d c g hd (by rw[hi];simp[j,f])
  ·rw[if_neg hd] at a;simp only[aah,ab0,beq_iff_eq] at a;obtain⟨rfl,rfl⟩:=a
   match xs,f,c with
   | [x],_,c =>
    have h:=c 0 x rfl;simp only[abe] at h
    have k:(isAgg t).run P w=.ok false w:=by
     unfold isAgg;rw[Sem.run_bind,run_underlying g w]
     cases d<;>simp_all [TypeDesc.isRow]
    simp[Instr.loadAt,Instr.sureAddr,loadVar,k,oZ,load,Sem.run,h]
 ·cases a
def znH{b off:Nat}{cs:List V}(h:fI M w b cs off):∃ xs:List Value,ah M w cs xs/\w.rangeAt b off xs:=by
 induction cs generalizing off with
 | nil=>exact⟨[],by simp only[ah],fun j v a=>by simp at a⟩
 | cons c cs d =>
  simp only[fI] at h;obtain⟨⟨x,e,_,f⟩,h⟩:=h;obtain⟨xs,g,i⟩:=d h;refine⟨x::xs,by simp only[ah];exact⟨x,xs,rfl,f,g⟩,fun j v a=>?_⟩
  cases j with
  | zero=>simp at a;subst a;simpa using e
  | succ j=>simp at a;have:=i j v a;rw[show off+1+j=off+(j+1) by omega] at this;exact this
def zwj{b off k:Nat}{cs:List V}(h:fI M w b cs off):fI M w b (cs.take k) off:=by
 refine DD fun i c a=>?_;rw[aaB] at a;split at a
 ·exact Wo h a
 ·cases a
def zpi{b off k:Nat}{cs:List V}(h:fI M w b cs off):fI M w b (cs.drop k) (off+k):=by refine DD fun i c a=>?_;rw[aba] at a;have:=Wo h a;rw[show off+(k+i)=off+k+i by omega] at this;exact this
def Rq{t:TypeId}{x:Operand}{y:X}{base sz:Nat}{i old:Bool}(z:o.op=.load t x)(E:aG M.fm x y=true)(A:iv P t sz i=true)(F:bj M w e a n)(l:aF M w H)
  (d:aV base e H (.load sz i old y)=some (v,H1)):dh P o a M H w v H1:=by
 have g:=fL E F;simp only[aV] at d;split at d
 ·rename_i id off m;split at d
  ·cases d
  ·split at d
   ·rename_i p G;split at d
    ·rename_i q;rw[aaq] at d;obtain⟨I,r,d⟩:=d;cases d;rw[m] at g;simp only[aq] at g;have B:=l.rel id _ G;simp only[aJ] at B;obtain⟨J,_,xs,K,L,C⟩:=B;have h:=ic C;refine .plain (rv:=oZ i (((xs.toList.take p.length).drop off).take sz)) l ?_ (M9 r (wm (x_ C off) sz) (fun c s=>J c (aat (aam s))))
     have:=WA (P:=P) (w:=w) (b:=M.j id) (off:=off) (xs:=((xs.toList.take p.length).drop off).take sz) A (by rw[aad,aau,h];omega) (fun j u f=>by
      rw[aaB] at f;split at f
      ·rw[aba,aaB] at f;split at f
       ·rw[cell_of_row w (M.j id) (off+j) xs K (0,0) L];simpa using f
       ·cases f
      ·cases f)
     simp[execOp,z,g.2,this]
    ·cases d
   ·cases d
 ·rename_i p m;split at d
  ·rename_i q;rw[aaq] at d;obtain⟨I,r,d⟩:=d;cases d;rw[m] at g;simp only[aq] at g;obtain⟨N,b,off,O,Q⟩:=g;obtain⟨xs,D,R⟩:=znH (zwj (k:=sz) Q);refine .plain (rv:=oZ i xs) l ?_ (M9 r D (fun c s=>V.cr (N c (aam s))));have:=WA (P:=P) (w:=w) A (by rw[ic D];simp;omega) R;simp[execOp,z,O,this]
  ·cases d
 ·cases d
def Rr{xs:Array Value}{k i:Nat}{x:Value}(h:(xs.toList.take k)[i]?=some x):xs[i]?=some x:=by
 rw[aaB] at h;split at h
 ·simpa using h
 ·cases h
def zqG{l n:List Value}{k off:Nat}(j:k<=l.length)(h:off+n.length<=k) :
  (l.take off++n++l.drop (off+n.length)).take k=(l.take k).take off++n++(l.take k).drop (off+n.length):=by
 have d:(l.take k).length=k:=by rw[aad];omega
 obtain⟨a,c⟩:∃ a,a=l.take k:=⟨_,rfl⟩;obtain⟨b,e⟩:∃ b,b=l.drop k:=⟨_,rfl⟩
 have f:l=a++b:=by rw[c,e,aa4]
 rw[<-c] at d |-;have g:(a++b).take off=a.take off:=List.take_append_of_le_length an;have i:(a++b).drop (off+n.length)=a.drop (off+n.length)++b:=List.drop_append_of_le_length an;rw[f,g,i,<-abm];refine List.take_left' ?_;simp only[aax,aad,aau];omega
def Rs{t:TypeId}{x y:Operand}{A B:X}{base sz:Nat}(O:o.op=.store t x y)(Q:aG M.fm x A=true)(R:aG M.fm y B=true)(hi:(P.info? t).map (·.size)=some sz)
  (C:bj M w e a n) (D:aF M w H) (d:aV base e H (.store sz A B)=some (v,H1)):dh P o a M H w v H1:=by
 have p:=fL Q C;simp only[aV] at d;split at d
 ·rename_i id b ds S T;split at d
  ·rename_i g E;split at d
   ·rename_i h;cases d;rw[S] at p;simp only[aq] at p;have F:=D.rel id _ E;simp only[aJ] at F;obtain⟨G,_,xs,U,I,q⟩:=F;have k:=ic q;obtain⟨hd,J⟩:=Wz (fL R C) T;have l:=ic hd
    have V:∀ u∈(a.eval y).cells.toList,u.oneCell'=true:=by
     intro u W;obtain⟨i,hi⟩:=abK W
     have K:i<ds.length:=by rw[<-l];exact(aab.1 hi).1
     obtain⟨x',L,Y⟩:=og hd (abv K);rw[hi] at L;cases L;exact Wq Y (J _ (abx K))
    have N:g.length<=xs.toList.length:=by rw[aad] at k;omega
    have Z:g.length<=xs.size:=by simpa using N
    have m:=run_storeCells_at P (M.j id) b U (a.eval y).cells.toList 0 xs w I (by rw[l];omega) V;simp only[abe] at m
    obtain⟨s,ii,r⟩:=Wv (ds:=g.take b++ds++g.drop (b+sz)) D E I (ys:=(xs.toList.take b++(a.eval y).cells.toList++xs.toList.drop (b+(a.eval y).cells.toList.length)).toArray)
     (by
      rw[show(g.take b++ds++g.drop (b+sz)).length=g.length by simp only[aax,aad,aau];omega];simp only[];rw[zqG N (by rw[l];omega)];refine yZ (yZ (wm q b) hd) ?_;rw[l,h.1]
      exact x_ q _)
     (fun c f=>by
      simp only[aa8] at f
      rcases f with(f|f)|f
      ·exact G c (aam f)
      ·exact J c f
      ·exact G c (aat f))
    refine⟨.skip,_,_,?_,rfl,s,ii,r⟩
    have dD:(a.eval y).cells.size=sz:=by rw[<-aaG,l,h.1]
    cases z:P.info? t with
    | none=>simp[z] at hi
    | some i =>
     have nG:i.size=sz:=by simpa[z] using hi
     have WD:(storeVar t ⟨M.j id,b,none⟩ (a.eval y)).run P w=(storeCells ⟨M.j id,b,none⟩ (a.eval y).cells.toList 0).run P w:=by simp[storeVar,sizeOf,typeInfo,z,nG,dD]
     simp only[execOp,O,Instr.storeAt,p.2,Instr.sureAddr,Sem.run_bind,Sem.run_pure,Result.andThen_ok,WD,m]
   ·cases d
  ·cases d
 ·cases d
end
open Go Go.RowKit
variable {P:Program} {M M':Mm} {H H1:ae} {w w':World}
variable {e:Env} {a:Act} {n:Nat} {o:Oper} {v:V}
def zsT{t:TypeId}{d:TypeDesc}(a:P.underlying t=some d):(isAgg t).run P w=.ok d.isRow w:=by
 unfold isAgg;rw[Sem.run_bind,run_underlying a w]
 cases d<;>simp[TypeDesc.isRow]
def WE{t:TypeId}{sz off:Nat}{b:Bool}{xs:Array Value}(a:iv P t sz b=true)(g:off+sz<=xs.size) :
  (part t xs off).run P w=.ok (oZ b ((xs.toList.drop off).take sz)) w:=by
 unfold iv at a;split at a
 ·rename_i d i c hi;simp only[aah,beq_iff_eq] at a;obtain⟨f,a⟩:=a
  by_cases hd:d.isRow=true
  ·rw[if_pos hd] at a;subst a
   have:xs.extract off (off+sz)=((xs.toList.drop off).take sz).toArray:=by apply ab_;simp[Array.toList_extract,abq]
   simp[part,zsT c,hd,sizeOf,typeInfo,hi,f,oZ,this]
  ·rw[if_neg hd] at a;simp only[aah,ab0,beq_iff_eq] at a;obtain⟨rfl,rfl⟩:=a
   have e:off<xs.size:=an
   have:(xs.toList.drop off).take 1=[xs[off]]:=by rw[List.drop_eq_getElem_cons (by simpa using e)];simp
   simp[part,zsT c,hd,e,oZ,this]
 ·cases a
def Ki(P:Program)(t:TypeId)(f:Nat)(off:Nat):Option TypeId :=
 match P.underlying t with
 | some (.struct b)=>match b[f]? with
  | some a=>if a.offset=off then some a.type else none
  | none=>none
 | _=>none
def zCf{t:TypeId}{x:Operand}{l:X}{f base off ft:Nat}{i:TypeInfo}(q:o.op=.fieldAddr t x f)(r:aG M.fm x l=true)(d:Ki P t f off=some ft)
  (hi:P.info? ft=some i) (s:i.size≠0) (u:bj M w e a n) (m:aF M w H) (h:aV base e H (.pG off l)=some (v,H1)):dh P o a M H w v H1:=by
 have g:=fL r u;unfold Ki at d;split at d
 ·rename_i G y;split at d
  ·rename_i I z;split at d
   ·rename_i A;cases d
    have p:∀ b k,a.eval x=.pointer (some ⟨b,k,none⟩)->(execOp a.eval o).run P w=.ok (.value (.pointer (some ⟨b,k+off,none⟩))) w:=by intro b k B;simp[execOp,q,B,Instr.fieldAt,run_underlying y,z,Instr.sureAddr,fieldPlace,sizeOf,typeInfo,hi,s,Addr.add_lit,A]
    simp only[aV] at h;split at h
    ·rename_i id k j;cases h;rw[j] at g;simp only[aq] at g;exact .plain m (p _ _ g.2) (by simp only[aq];exact⟨g.1,trivial⟩)
    ·rename_i J j;cases h;rw[j] at g;simp only[aq] at g;obtain⟨C,b,k,D,E⟩:=g;exact .plain m (p _ _ D) (by simp only[aq];exact⟨fun c F=>C c (aat F),b,k+off,rfl,zpi E⟩)
    ·cases h
   ·cases d
  ·cases d
 ·cases d
def zGt{t:TypeId}{x:Operand}{i:X}{f base off sz ft:Nat}{g:Bool}(l:o.op=.field t x f)(m:aG M.fm x i=true)(d:Ki P t f off=some ft)
  (p:iv P ft sz g=true) (q:bj M w e a n) (r:aF M w H) (b:aV base e H (.Hu off sz g i)=some (v,H1)):dh P o a M H w v H1:=by
 have h:=fL m q;unfold Ki at d;split at d
 ·rename_i G s;split at d
  ·rename_i I u;split at d
   ·rename_i y;cases d;simp only[aV] at b;split at b
    ·rename_i J z;split at b
     ·rename_i A;rw[aaq] at b;obtain⟨K,B,b⟩:=b;cases b;rw[z] at h;simp only[aq] at h;obtain⟨C,xs,D,j⟩:=h;have k:=ic j;have E:=WE (P:=P) (w:=w) (xs:=xs.toArray) (off:=off) p (by simp;omega);refine .plain (rv:=oZ g ((xs.drop off).take sz)) r ?_ (M9 B (wm (x_ j off) sz) (fun c F=>C c (aat (aam F))));simp[execOp,l,D,Instr.field,run_underlying s,u,asAgg,y,E]
     ·cases b
    ·cases b
   ·cases d
  ·cases d
 ·cases d
def zwk{b:Nat}{es:List (List V)}{off sz:Nat}(h:gr M w b es off)(a:∀ e∈es,e.length=sz){i:Nat}{c:List V}(hi:es[i]?=some c):fI M w b c (off+i*sz):=by
 induction es generalizing off i with
 | nil=>simp at hi
 | cons e es f =>
  simp only[gr] at h
  cases i with
  | zero=>simp at hi;subst hi;simpa using h.1
  | succ i =>
   simp at hi;have:=f h.2 (fun d hd=>a d (by simp[hd])) hi;rw[a e ir] at this;rw[show off+sz+i*sz=off+(i+1)*sz by rw[aaH,aa0];omega] at this;exact this
def elemOf?(P:Program)(t:TypeId):Option TypeId :=
 match P.underlying t with
 | some (.slice a)=>some a
 | _=>none
def elemOf?_some{t a:TypeId}(h:elemOf? P t=some a):P.underlying t=some (.slice a):=by
 unfold elemOf? at h;split at h
 ·cases h;assumption
 ·cases h
def arrOf?(P:Program)(t:TypeId):Option (Nat×TypeId) :=
 match P.underlying t with
 | some (.array k a)=>some (k,a)
 | _=>none
def arrOf?_some{t a:TypeId}{k:Nat}(h:arrOf? P t=some (k,a)):P.underlying t=some (.array k a):=by
 unfold arrOf? at h;split at h
 ·cases h;assumption
 ·cases h
def zCg{t:TypeId}{x y:Operand}{C D:X}{base sz E:Nat}{i:TypeInfo}(R:o.op=.indexAddr t x y)(S:aG M.fm x C=true)(T:aG M.fm y D=true)(U:elemOf? P t=some E)
  (hi:P.info? E=some i) (V:i.size=sz) (F:bj M w e a n) (G:aF M w H) (b:aV base e H (.qT sz C D)=some (v,H1)):dh P o a M H w v H1:=by
 have h:=fL S F;have l:=fL T F;have W:=elemOf?_some U
 have I:∀(f:Addr) (g d:Nat) (k:IntKind) (j:Int),a.eval x=.slice (some f) g d->a.eval y=.int k j->0<=j->j<g ->
   (execOp a.eval o).run P w=.ok (.value (.pointer (some (f.add (j.toNat*sz))))) w:=by
  intro f g d k j Y Z h3 h4;simp[execOp,R,Y,Z,Instr.indexAt,run_underlying W,asIntOf,h3,h4,sizeOf,typeInfo,hi,V]
 simp only[aV] at b;split at b
 ·rename_i es tk k j u z;split at b
  ·rename_i m;split at b
   ·rename_i J p;split at b
    ·rename_i q;cases b;rw[u] at h;rw[z] at l;simp only[aq] at h l;obtain⟨l_,f,d,A,B,r,_⟩:=h;have ai:=(aab.1 p).1
     cases f with
     | none=>obtain⟨rfl,_⟩:=r;simp at p
     | some f =>
      obtain⟨s,⟨K,L⟩,r⟩:=r;have N:=List.mem_of_getElem? p
      have:K=sz:=by rw[<-L J N,q]
      subst this;obtain⟨O,Q,hb⟩:=f;simp only at s r;have s:=s.resolve_left (fun m=>by rw[m] at p;simp at p);subst s;refine .plain G (I ⟨O,Q,none⟩ es.length d k j A l m an) ?_;simp only[aq,Addr.add_lit];exact⟨fun c hc=>l_ J N c hc,O,Q+j.toNat*K,rfl,zwk r L p⟩
    ·cases b
   ·cases b
  ·cases b
 ·rename_i id he k hf kk j u z;split at b
  ·rename_i m;cases b;rw[u] at h;rw[z] at l;simp only[aq] at h l;obtain⟨ha,d,A,B⟩:=h;refine .plain G (I _ _ d _ j A l m.1 m.2) ?_;simp only[aq,Addr.add_lit];exact⟨ha,trivial⟩
  ·cases b
 ·cases b
def zzZ{t:TypeId}{x y:Operand}{q r:X}{base sz s len:Nat}{i:TypeInfo}(B:o.op=.indexAddr t x y)(C:aG M.fm x q=true)(D:aG M.fm y r=true)(E:arrOf? P t=some (len,s))
  (hi:P.info? s=some i) (F:i.size=sz) (u:bj M w e a n) (z:aF M w H) (d:aV base e H (.m_ len sz q r)=some (v,H1)):dh P o a M H w v H1:=by
 have f:=fL C u;have g:=fL D u;have G:=arrOf?_some E
 have A:∀(b l:Nat) (k:IntKind) (j:Int),a.eval x=.pointer (some ⟨b,l,none⟩)->a.eval y=.int k j->0<=j->j<len ->
   (execOp a.eval o).run P w=.ok (.value (.pointer (some ⟨b,l+j.toNat*sz,none⟩))) w:=by
  intro b l k j I J K L;simp[execOp,B,I,J,Instr.indexAt,run_underlying G,asIntOf,K,L,sizeOf,typeInfo,hi,F,Instr.sureAddr,Addr.add_lit]
 simp only[aV] at d;split at d
 ·rename_i id N k j m p;split at d
  ·rename_i h;cases d;rw[m] at f;rw[p] at g;simp only[aq] at f g;exact .plain z (A _ _ _ j f.2 g h.1 h.2) (by simp only[aq];exact⟨f.1,trivial⟩)
  ·cases d
 ·rename_i T k j m p;split at d
  ·rename_i h;cases d;rw[m] at f;rw[p] at g;simp only[aq] at f g;obtain⟨O,b,l,Q,R⟩:=f;exact .plain z (A _ _ _ j Q g h.1 h.2) (by simp only[aq];exact⟨fun c S=>O c (aat S),b,_,rfl,zpi R⟩)
  ·cases d
 ·cases d
def zGu{t:TypeId}{x y:Operand}{q r:X}{base sz g len:Nat}{h:Bool}(B:o.op=.index t x y)(C:aG M.fm x q=true)(D:aG M.fm y r=true)(E:arrOf? P t=some (len,g))
  (f:iv P g sz h=true) (s:bj M w e a n) (F:aF M w H) (b:aV base e H (.idx len sz h q r)=some (v,H1)):dh P o a M H w v H1:=by
 have l:=fL C s;have m:=fL D s;have G:=arrOf?_some E;simp only[aV] at b;split at b
 ·rename_i R k j I J;split at b
  ·rename_i u;rw[aaq] at b;obtain⟨S,K,b⟩:=b;cases b;rw[I] at l;rw[J] at m;simp only[aq] at l m;obtain⟨L,xs,N,z⟩:=l;have A:=ic z;have O:=WE (P:=P) (w:=w) (xs:=xs.toArray) (off:=j.toNat*sz) f (by simp;omega)
   have p:∃ i,P.info? g=some i/\i.size=sz:=by
    unfold iv at f;split at f
    ·rename_i d i _ hi;simp only[aah,beq_iff_eq] at f;exact⟨i,hi,f.1⟩
    ·cases f
   obtain⟨i,hi,p⟩:=p;refine .plain (rv:=oZ h ((xs.drop (j.toNat*sz)).take sz)) F ?_ (M9 K (wm (x_ z _) sz) (fun c Q=>L c (aat (aam Q))));simp[execOp,B,N,m,Instr.index,asIntOf,run_underlying G,u.1,u.2.1,sizeOf,typeInfo,hi,p,O]
  ·cases b
 ·cases b
def valOf:V->Value
 | .int k n=>.int k n
 | .bool b=>.bool b
 | .str s=>.string ⟨s.toArray⟩
 | _=>undef
def zgx(s:List UInt8):(ByteArray.mk s.toArray).size=s.length:=by simp[ByteArray.size]
def zGv{f L:TypeId}{x y:Operand}{F G:X}{base:Nat}{op:BinOp}(I:o.op=.binOp op f x y L)(N:aG M.fm x F=true)(O:aG M.fm y G=true)
  (J:bj M w e a n) (K:aF M w H) (h:aV base e H (.bin op F G)=some (v,H1)):dh P o a M H w v H1:=by
 have i:=fL N J;have j:=fL O J;simp only[aV] at h;rw[aaq] at h;obtain⟨d,b,h⟩:=h;simp only[abZ.injEq] at h;obtain⟨rfl,rfl⟩:=h;unfold Wu at b;split at b
 ·rename_i k p l q m r;rw[m] at i;rw[r] at j;simp only[aq] at i j
  have z:∀ w,(eqGuard op f x y (.int k p) (.int l q)).run P w=.ok () w:=by intro w;unfold eqGuard;cases op<;>simp
  have g:(execOp a.eval o).run P w=((binOp op f (.int k p) (.int l q)).run P w).andThen fun u w'=>.ok (.value u) w':=by
   simp only[execOp,I,i,j,Sem.run_bind,z,Result.andThen_ok]
   cases(binOp op f (.int k p) (.int l q)).run P w<;>simp[Result.andThen]
  have c:(binOp op f (.int k p) (.int l q)).run P w=.ok (valOf d) w->aq M w d (valOf d)->dh P o a M H w d H:=by intro A B;refine .plain (rv:=valOf d) K ?_ B;rw[g,A];rfl
  cases op<;>simp only at b
  case shl|shr =>
   split at b
   ·cases b
   ·rename_i C;simp only[aaa.injEq] at b;subst b;refine c ?_ (by simp only[aq,valOf]);simp[binOp,Op.shift,C,valOf,jc,jR]
  case quo|rem =>
   split at b
   ·rename_i D;subst D;split at b
    ·cases b
    ·rename_i C;simp only[aaa.injEq] at b;subst b;refine c ?_ (by simp only[aq,valOf]);simp[binOp,Op.intDiv,C,valOf,mr,mV]
   ·cases b
  all_goals
   split at b
   ·rename_i D;subst D;simp only[aaa.injEq] at b;subst b;refine c ?_ (by simp only[aq,valOf]);simp[binOp,Op.intArith,Op.intBits,Op.intCmp,valOf,aE,c_,eO,iZ,uK,vl,Kg]
   ·cases b
 ·rename_i s t m r;rw[m] at i;rw[r] at j;simp only[aq] at i j
  have z:∀ w,(eqGuard op f x y (.string ⟨s.toArray⟩) (.string ⟨t.toArray⟩)).run P w=.ok () w:=by intro w;unfold eqGuard;cases op<;>simp
  have g:(execOp a.eval o).run P w=((binOp op f (.string ⟨s.toArray⟩) (.string ⟨t.toArray⟩)).run P w).andThen fun u w'=>.ok (.value u) w':=by
   simp only[execOp,I,i,j,Sem.run_bind,z,Result.andThen_ok]
   cases(binOp op f (.string ⟨s.toArray⟩) (.string ⟨t.toArray⟩)).run P w<;>simp[Result.andThen]
  have c:(binOp op f (.string ⟨s.toArray⟩) (.string ⟨t.toArray⟩)).run P w=.ok (valOf d) w->aq M w d (valOf d)->dh P o a M H w d H:=by intro A B;refine .plain (rv:=valOf d) K ?_ B;rw[g,A];rfl
  cases op<;>simp only[aaa.injEq,reduceCtorEq] at b
  case add =>
   split at b
   ·rename_i E;simp only[aaa.injEq] at b;subst b;refine c ?_ (by simp only[aq,valOf]);rw[binOp_string_add,run_string_add_sum w _ _ (by rw[zgx,zgx];exact E),ByteArray.mk_append_mk,valOf]
   ·cases b
  all_goals
   subst b;refine c ?_ (by simp only[aq,valOf]);simp[binOp,Op.stringOp,valOf]
 ·cases b
def zGw{b m:TypeId}{x y:Operand}{g h:X}{base:Nat}{neg:Bool}(i:o.op=.binOp (if neg then .neq else .eql) b x y m)(r:aG M.fm x g=true)(s:aG M.fm y h=true)
  (j:P.underlying b=some .bool) (k:bj M w e a n) (t:aF M w H) (c:aV base e H (.beq neg g h)=some (v,H1)):dh P o a M H w v H1:=by
 have d:=fL r k;have f:=fL s k;simp only[aV] at c;split at c
 ·rename_i p q u z;cases c;rw[u] at d;rw[z] at f;simp only[aq] at d f;refine .plain (rv:=.bool (if neg then !(p==q) else p==q)) t ?_ (by simp only[aq])
  have l:∀ op w,(eqGuard op b x y (.bool p) (.bool q)).run P w=.ok () w:=by intro op w;unfold eqGuard;cases op<;>simp
  cases neg
  ·simp only[execOp,i,d,f,Sem.run_bind,l,Result.andThen_ok,aaw,if_false,run_eql_bool w b p q j];rfl
  ·simp only[execOp,i,d,f,Sem.run_bind,l,Result.andThen_ok,if_true,run_neq_bool w b p q j];rfl
 ·cases c
def zLp{j:TypeId}{x:Operand}{i:X}{base:Nat}{op:UnOp}(f:o.op=.unOp op j x)(l:aG M.fm x i=true)
  (m:bj M w e a n) (g:aF M w H) (d:aV base e H (.un op i)=some (v,H1)):dh P o a M H w v H1:=by
 have b:=fL l m;simp only[aV] at d;rw[aaq] at d;obtain⟨q,c,d⟩:=d;cases d;unfold HA at c;split at c
 ·rename_i k p h;rw[h] at b;simp only[aq] at b
  cases op<;>simp only[aaa.injEq,reduceCtorEq] at c<;>subst c
  ·refine .plain (rv:=.int k (AJ k p)) g ?_ (by simp only[aq]);simp[execOp,f,b,Op.unary,Op.intArith,AJ]
  ·refine .plain (rv:=.int k (AK k p)) g ?_ (by simp only[aq]);simp[execOp,f,b,Op.unary,Op.intBits,AK]
 ·rename_i p h;rw[h] at b;simp only[aq] at b
  cases op<;>simp only[aaa.injEq,reduceCtorEq] at c<;>subst c
  refine .plain (rv:=.bool !p) g ?_ (by simp only[aq]);simp[execOp,f,b,Op.unary]
 ·cases c
def zEV{st dt:TypeId}{x:Operand}{d:X}{base:Nat}{k:IntKind}{f:TypeDesc}(g:o.op=.convert st dt x)(h:aG M.fm x d=true)(i:P.underlying st=some f)(hd:P.underlying dt=some (.int k))
  (j:bj M w e a n) (l:aF M w H) (b:aV base e H (.conv k d)=some (v,H1)):dh P o a M H w v H1:=by
 have c:=fL h j;simp only[aV] at b;split at b
 ·rename_i q p m;cases b;rw[m] at c;simp only[aq] at c;refine .plain (rv:=.int k (fV k p)) l ?_ (by simp only[aq]);simp[execOp,g,c,convert,run_underlying i,run_underlying hd,Conv.intToInt,fV]
 ·cases b
def zEW{f b:Nat}{cap:Array Operand}{c:List X}(d:o.op=.makeFunc (.func f) #[] cap)(g:f=M.fm b)(h:qb M.fm cap.toList c=true)
  (i:bj M w e a n) (j:aF M w H):dh P o a M H w (.fn b (c.map (X.ev e))) H:=by
 refine .plain (rv:=.func (.func (M.fm b)) #[] (cap.toList.map a.eval).toArray) j ?_ (by simp only[aq];exact⟨_,rfl,DG h i⟩)
 have:(cap.toList.map a.eval).toArray=cap.map a.eval:=by apply ab_;simp
 rw[this];simp[execOp,d,Instr.makeFunc,g]
def zGx{x:Operand}{d:X}{base i:Nat}(f:o.op=.extract x i)(g:aG M.fm x d=true)(h:bj M w e a n)(j:aF M w H)
  (b:aV base e H (.ext i d)=some (v,H1)):dh P o a M H w v H1:=by
 have c:=fL g h;simp only[aV] at b;split at b
 ·rename_i s k;rw[aaq] at b;obtain⟨t,l,b⟩:=b;cases b;rw[k] at c;simp only[aq] at c;obtain⟨xs,m,p⟩:=c;obtain⟨y,q,r⟩:=og p l;refine .plain (rv:=y) j ?_ r
  have:xs.toArray[i]?=some y:=by simpa using q
  simp[execOp,f,m,Instr.extract,this]
 ·cases b
def zCh{x:Operand}{m:X}{base:Nat}(i:o.op=.nilCheck x)(p:aG M.fm x m=true)(q:bj M w e a n)(j:aF M w H)
  (g:aV base e H (.qU m)=some (v,H1)):dh P o a M H w v H1:=by
 have c:=fL p q;simp only[aV] at g;split at g
 ·rename_i id k h;cases g;rw[h] at c;have d:=c;simp only[aq] at d;refine .plain (rv:=a.eval x) j ?_ c;simp[execOp,i,d.2]
 ·rename_i s h;cases g;rw[h] at c;have d:=c;simp only[aq] at d;obtain⟨_,b,k,l,_⟩:=d;refine .plain (rv:=a.eval x) j ?_ c;simp[execOp,i,l]
 ·rename_i f r h;cases g;rw[h] at c;have d:=c;simp only[aq] at d;obtain⟨xs,l,_⟩:=d;refine .plain (rv:=a.eval x) j ?_ c;simp[execOp,i,l]
 ·cases g
def zGy{t:TypeId}{x:Operand}{m:X}{base:Nat}{st:Bool}(g:o.op=.call { callee:=.builtin .len,args:=#[x],argTypes:=#[t] })(p:aG M.fm x m=true)
  (b:if st then P.underlying t=some .string else ∃ h,elemOf? P t=some h) (q:bj M w e a n) (i:aF M w H)
  (d:aV base e H (.len st m)=some (v,H1)):dh P o a M H w v H1:=by
 have c:=fL p q;simp only[aV] at d;split at d
 ·rename_i r tk f;cases d;simp only[aaw,if_false] at b;obtain⟨h,b⟩:=b;rw[f] at c;simp only[aq] at c;obtain⟨_,z,j,l,_⟩:=c;refine .plain (rv:=.int .i64 r.length) i ?_ (by simp only[aq]);simp[execOp,g,resolve,invoke,builtin,l,Builtin.len_,run_underlying (elemOf?_some b),goInt]
 ·rename_i id u k y f;cases d;simp only[aaw,if_false] at b;obtain⟨h,b⟩:=b;rw[f] at c;simp only[aq] at c;obtain⟨_,j,l,_⟩:=c;refine .plain (rv:=.int .i64 k) i ?_ (by simp only[aq]);simp[execOp,g,resolve,invoke,builtin,l,Builtin.len_,run_underlying (elemOf?_some b),goInt]
 ·rename_i s f;cases d;simp only[if_true] at b;rw[f] at c;simp only[aq] at c;refine .plain (rv:=.int .i64 s.length) i ?_ (by simp only[aq]);simp[execOp,g,resolve,invoke,builtin,c,Builtin.len_,run_underlying b,goInt,zgx]
 ·cases d
def Kj(P:Program)(t:TypeId)(k:IntKind):Bool:=match P.underlying t with|some (.int a)=>k==a|_=>false
def Kk{t:TypeId}{k:IntKind}(h:Kj P t k=true):P.underlying t=some (.int k):=by
 unfold Kj at h;split at h
 ·rename_i b a;simp only[beq_iff_eq] at h;rw[h];exact a
 ·cases h
def Rt(P:Program)(t:TypeId):Bool:=match P.underlying t with|some .bool=>true|_=>false
def Rv{t:TypeId}(h:Rt P t=true):P.underlying t=some .bool:=by
 unfold Rt at h;split at h
 ·assumption
 ·cases h
def Cy(P:Program)(t:TypeId):Bool:=match P.underlying t with|some .string=>true|_=>false
def Cz{t:TypeId}(h:Cy P t=true):P.underlying t=some .string:=by
 unfold Cy at h;split at h
 ·assumption
 ·cases h
def wV{es:List (List V)}{sz:Nat}(h:∀ e∈es,e.length=sz):es.flatten.length=es.length*sz:=by
 induction es with
 | nil=>simp
 | cons e es a=>simp only[aaD,aax,a (fun d hd=>h d (by simp[hd])),h e ir,aaY,aaH,aa0];omega
def Rw{b off:Nat}{es:List (List V)}(h:gr M w b es off):∃ xs:List Value,ah M w es.flatten xs/\w.rangeAt b off xs:=znH (Ke.1 h)
def WG{b:Nat}{xs:List Value}:∀{es:List (List V)} {off:Nat},ah M w es.flatten xs->w.rangeAt b off xs->(∀ i,i<xs.length->Rd M b (off+i))->gr M w b es off:=by intro es off d e f;rw[Ke];refine DD fun i c g=>?_;obtain⟨x,a,h⟩:=og d g;exact⟨x,e i x a,f i (aab.1 a).1,h⟩
def zuE{cs:List V}{xs:List Value}(h:ah M w cs xs)(d:∀ c∈cs,c.fC=true):∀ u∈xs,u.oneCell'=true:=by
 intro u e;obtain⟨i,hi⟩:=abK e
 have a:i<cs.length:=by rw[<-ic h];exact(aab.1 hi).1
 obtain⟨g,b,f⟩:=og h (abv a);rw[hi] at b;cases b;exact Wq f (d _ (abx a))
def zz0{c:V}{fs:List (List V)}{x:Value}{t:TypeId}{sz:Nat}(a:(∃ E,P.underlying t=some (.slice E))\/P.underlying t=some .string)(h:aq M w c x)(e:c.elems?=some fs)(p:∀ f∈fs,f.length=sz) :
  ∃ k,Src P sz t x fs.length k w/\ah M w fs.flatten k:=by
 cases c<;>simp only[V.elems?,aaa.injEq,reduceCtorEq] at e<;>subst e
 case vs fs tk =>
  simp only[aq] at h;obtain⟨F,q,g,rfl,G,m,_⟩:=h
  cases q with
  | none =>
   obtain⟨rfl,rfl⟩:=m
   exact⟨[],⟨a,fun _=>rfl,run_firstCells_none w sz 0 0 0,run_firstCells_none w.drew sz 0 0 0,ir,fun _ h=>by cases h⟩,by simp only[aaV,ah]⟩
  | some q =>
   obtain⟨b,d,sp⟩:=q;obtain⟨o,_,m⟩:=m
   by_cases y:fs=[]
   ·subst y
    exact⟨[],⟨a,fun _=>rfl,run_firstCells_some w sz 0 ⟨b,d,sp⟩ 0 g [] ir (fun j u a=>by simp at a),run_firstCells_some w.drew sz 0 ⟨b,d,sp⟩ 0 g [] ir (fun j u a=>by simp at a),ir,ir⟩,
     by simp only[aaV,ah]⟩
   have o:=o.resolve_left y;simp only at o m;subst o;obtain⟨xs,n,H⟩:=Rw m
   have r:xs.length=fs.length*sz:=by rw[ic n,wV p]
   have z:∀ j u,xs[j]?=some u->w.cell? ((⟨b,d,none⟩:Addr).add j)=some u:=fun j u a=>by rw[Addr.add_mid];exact H j u a
   refine⟨xs,⟨a,fun _=>rfl,run_firstCells_some w sz fs.length ⟨b,d,none⟩ fs.length g xs r z,run_firstCells_some w.drew sz fs.length ⟨b,d,none⟩ fs.length g xs r (by simpa using z),r,zuE n fun c e=>?_⟩,n⟩;obtain⟨f,I,e⟩:=aa6.1 e;exact V.cr (F f I c e)
 case str s =>
  simp only[aq] at h;subst h
  have l:(qW s).length=s.length:=by simp[qW]
  have A:(ByteArray.mk s.toArray).size=s.length:=by simp[ByteArray.size]
  by_cases v:s=[]
  ·subst v
   refine⟨[],⟨a,fun _=>rfl,?_,?_,by simp[qW],fun _ h=>by cases h⟩,by simp only[qW,aaE,aaV,ah]⟩<;>simp[Builtin.firstCells,qW]<;>rfl
  ·have n:sz=1:=by
    cases s with
    | nil=>exact absurd rfl v
    | cons b s=>have:=p [V.int .u8 b.toNat] (by simp[qW]);simpa using this.symm
   subst n;refine⟨byteCells ⟨s.toArray⟩,?_,?_⟩
   ·rw[l,<-A];exact⟨a,fun _=>rfl,firstCells_string _ w,firstCells_string _ w.drew,by rw[byteCells_length,aci],fun u a=>by obtain⟨_,_,rfl⟩:=aa3.1 a;rfl⟩
   ·have J:(qW s).flatten=s.map fun b=>V.int .u8 b.toNat:=by
     clear p l A v
     induction s with
     | nil=>rfl
     | cons b s B=>simp only[qW,aaA,aaD] at B |-;rw[B];rfl
    rw[J];refine AI (by simp[byteCells]) fun i c x e C=>?_;simp only[byteCells,aav,aaq] at e C;obtain⟨b,K,rfl⟩:=e;obtain⟨L,D,rfl⟩:=C;rw[K] at D;cases D;simp only[aq]
def zym{c:V}{fs:List (List V)}{x:Value}(h:aq M w c x)(a:c.elems?=some fs):∀ f∈fs,∀ d∈f,d.pure=true:=by
 cases c<;>simp only[V.elems?,aaa.injEq,reduceCtorEq] at a<;>subst a
 case vs=>simp only[aq] at h;exact h.1
 case str =>
  intro f e d hd;obtain⟨b,_,rfl⟩:=aa3.1 e;simp at hd;subst hd;rfl
def WH(P:Program)(t a:TypeId)(sz bytes:Nat):Bool :=
 match elemOf? P t,(elemOf? P a).isSome||Cy P a with
 | some b,true=>match P.info? b with
  | some i=>i.size==sz&&i.bytes==bytes&&decide (0<sz)&&decide (0<bytes)&&(match i.zero with|some z=>z.cells.size==sz|none=>false)
  | none=>false
 | _,_=>false
def zqI(z:Array Value)(k:Nat):(Builtin.zeroCells z k).size=k*z.size:=by simp[Builtin.zeroCells]
def znp(w:World)(t g ty h:TypeId)(i:TypeInfo)(l:P.underlying t=some (.slice h))(hi:P.info? h=some i)(b c f:Nat)(xs:Array Value)(te:TypeId)
  (m:w.heap[b]?=some (.cells xs te (0,0))) (x:Value) (k:Nat) (a:List Value) (e:Src P i.size g x k a w) (n:c+k<=f) (o:c*i.size+a.length<=xs.size) :
  (Builtin.append_ #[t,g] ty #[.slice (some ⟨b,0,none⟩) c f,x]).run P w =
   .ok (.slice (some ⟨b,0,none⟩) (c+k) f) (w.setRow b (xs.toList.take (c*i.size)++a++xs.toList.drop (c*i.size+a.length)).toArray):=by
 have d:=run_storeCells_at P b (c*i.size) te a 0 xs w m (by simpa using o) e.one;simp only[abe] at d
 rcases e.kind with⟨e',j⟩|j<;>simp[Builtin.append_,run_underlying l,run_underlying j,sizeOf,typeInfo,hi,e.len,n,e.cells,Addr.add_lit,d]
def zGz{t t':TypeId}{x y:Operand}{sx sy:X}{base s sz bytes:Nat}(ho:o.op=.call { callee:=.builtin .append,args:=#[x,y],argTypes:=#[t,t'] })
  (hx:aG M.fm x sx=true) (hy:aG M.fm y sy=true) (T:WH P t t' sz bytes=true) (ht:bj M w e a n) (O:aF M w H)
  (D:aV base e H (.app s sz bytes sx sy)=some (v,H1)):dh P o a M H w v H1:=by
 have aR:=fL hx ht;have eR:=fL hy ht;unfold WH at T;split at T
 case h_2=>cases T
 rename_i E iF Nb;have K:=elemOf?_some iF
 have yb:(∃ E,P.underlying t'=some (.slice E))\/P.underlying t'=some .string:=by
  simp only[aca] at Nb
  rcases Nb with h|h
  ·obtain⟨hw,h⟩:=aaS.1 h;exact .inl ⟨_,elemOf?_some h⟩
  ·exact .inr (Cz h)
 split at T
 case h_2=>cases T
 rename_i i hi;simp only[aah,beq_iff_eq,decide_eq_true_eq] at T;obtain⟨⟨⟨⟨Z,jI⟩,kq⟩,Nc⟩,hz⟩:=T;split at hz
 case h_2=>cases hz
 rename_i z U;simp only[beq_iff_eq] at hz
 have V:∀ r w',(Builtin.append_ #[t,t'] o.type #[a.eval x,a.eval y]).run P w=.ok r w'->(execOp a.eval o).run P w=.ok (.value r) w':=by intro r w' h;simp only[execOp,ho,resolve,invoke,builtin,Sem.run_bind,Sem.run_pure,Result.andThen_ok,List.map_toArray,aaA,aaE,h]
 simp only[aV] at D;split at D
 case h_2=>cases D
 rename_i f tk B hp Q;rw[hp] at aR;split at D
 ·rename_i qF;cases D;subst qF;obtain⟨p,DH,hn⟩:=zz0 (sz:=sz) yb eR Q ir;simp only[aaV,ah] at hn;subst hn;have n_:=aR;simp only[aq] at n_;obtain⟨_,W,m,fy,hm,_⟩:=n_;have:=run_append_nothing (P:=P) w t t' o.type E i K hi W f.length m hm (a.eval y) (by rw[Z];exact DH);rw[<-fy] at this;exact .plain O (V _ _ this) aR
 rename_i qF;split at D
 case isFalse=>cases D
 rename_i hg;obtain⟨R,mu,iC⟩:=hg;obtain⟨p,DH,AU⟩:=zz0 (sz:=sz) yb eR Q mu
 have k_:p.length=B.length*sz:=by rw[ic AU,wV mu]
 have wY:=zym eR Q;have n_:=aR;simp only[aq] at n_;obtain⟨l_,W,m,fy,hm,cD,S⟩:=n_;have hA:0<B.length:=List.length_pos_iff.2 qF
 have oa:∀ e∈f++B,∀ c∈e,c.pure=true:=by
  intro d hd c F;simp only[aa8] at hd
  rcases hd with hd|hd
  ·exact l_ d hd c F
  ·exact wY d hd c F
 have aY:∀ e∈f++B,e.length=sz:=by
  intro d hd;simp only[aa8] at hd
  rcases hd with hd|hd
  ·exact iC d hd
  ·exact mu d hd
 have he:∃ A:List Value,ah M w f.flatten A/\(Builtin.firstCells i.size f.length (.slice W f.length m)).run P w.drew=.ok A.toArray w.drew:=by
  cases W with
  | none =>
   obtain⟨xZ,_⟩:=cD;subst xZ
   exact⟨[],by simp only[aaV,ah],by simp[Builtin.firstCells]⟩
  | some W =>
   obtain⟨b,hs,sp⟩:=W;obtain⟨eA,_,cD⟩:=cD
   by_cases AV:f=[]
   ·subst AV;exact⟨[],by simp only[aaV,ah],run_firstCells_some w.drew i.size 0 ⟨b,hs,sp⟩ 0 m [] ir (fun j u K=>by simp at K)⟩
   have eA:=eA.resolve_left AV;simp only at eA cD;subst eA;obtain⟨xs,h1,h2⟩:=Rw cD;refine⟨xs,h1,?_⟩
   exact run_firstCells_some w.drew i.size f.length ⟨b,hs,none⟩ f.length m xs (by rw[ic h1,wV iC,Z]) (fun j u K=>by
    rw[Addr.add_mid]
    exact h2 j u K)
 obtain⟨A,FA,Nf⟩:=he
 have Fl:A.length=f.length*sz:=by rw[ic FA,wV iC]
 have G:∀ id,(lK H id=true\/∃ k,H[id]?=some (some (.zone k)))->(M.al id=true->(M.z id).n<f.length+B.length)->m<f.length+B.length ->
   (execOp a.eval o).run P w=.ok (.value (.slice (some ⟨w.heap.size,0,none⟩) (f.length+B.length) (grownCap w (f.length+B.length) m E)))
    (w.drew.alloc (.cells ((A++p).toArray++Builtin.zeroCells z.cells (grownCap w (f.length+B.length) m E-(f.length+B.length))) E)) ->
   dh P o a M H w (.vs (f++B) (.own id)) (H.set id (some (.zone (f.length+B.length)))):=by
  intro id bI ai _ Y;have xW:=grownCap_ge w (f.length+B.length) m E;generalize hC:grownCap w (f.length+B.length) m E=C at xW Y
  have FB:(w.drew.alloc (.cells ((A++p).toArray++Builtin.zeroCells z.cells (C-(f.length+B.length))) E)).heap[w.heap.size]? =
    some (.cells ((A++p).toArray++Builtin.zeroCells z.cells (C-(f.length+B.length))) E (0,0)):=heap_alloc_new w.drew _
  have g:=(iP.drew w).trans (iP.alloc w.drew (.cells ((A++p).toArray++Builtin.zeroCells z.cells (C-(f.length+B.length))) E))
  obtain⟨st,ii,r⟩:=Ww (w':=w.drew.alloc (.cells ((A++p).toArray++Builtin.zeroCells z.cells (C-(f.length+B.length))) E)) (z:=⟨f.length+B.length,some w.heap.size,C,sz⟩) O bI g.os g.tape g.output g.size
   (fun b I _=>g.block b I)
   (fun b l k I _ _=>g.cell (O.fX ⟨id,I⟩))
   (fun b I=>by simp only[aaa.injEq] at I;omega)
   (fun b l I iW _=>by simp only[aaa.injEq] at iW;have:=O.fX ⟨id,I⟩;omega)
   (fun ha=>⟨by have:=ai ha;simp only;omega,fun h=>by have:=ai ha;simp only at h;omega⟩)
   (by
    refine⟨by simp only;omega,xW,kq,_,_,FB,?_⟩;simp only[Array.size_append,abn,aax,zqI,hz,Fl,k_,<-aaH]
    congr 1
    omega)
  refine⟨_,_,_,Y,?_,st,ii,r⟩;simp only[aq];refine⟨oa,some ⟨w.heap.size,0,none⟩,C,ir,by simpa using xW,⟨.inr rfl,⟨sz,aY⟩,?_⟩,?_⟩
  ·have uE:=ah.step st O ii (yZ FA AU);rw[<-aa7] at uE;refine WG uE ?_ ?_
   ·intro j u K;have J:j<(A++p).length:=(aab.1 K).1;rw[cell_of_row _ w.heap.size (0+j) _ E (0,0) FB];rw[abz,Array.getElem?_append];rw[if_pos (by simpa using J)];simpa using K
   ·intro j J l N;simp only[Mm.mN,if_true,aaa.injEq] at N;subst N;simp only[aax,Fl,k_,<-aaH] at J;simp only[abz];exact J
  ·simp only[mq,Mm.mN,decide_true,aaM,if_true,true_and,aax];exact⟨aae _,fun _=>aY⟩
 have AW:m<f.length+B.length->Builtin.nextslicecap (f.length+B.length) m*i.bytes<=281474976710656 ->
   (execOp a.eval o).run P w=.ok (.value (.slice (some ⟨w.heap.size,0,none⟩) (f.length+B.length) (grownCap w (f.length+B.length) m E)))
    (w.drew.alloc (.cells ((A++p).toArray++Builtin.zeroCells z.cells (grownCap w (f.length+B.length) m E-(f.length+B.length))) E)):=by
  intro F wX;refine V _ _ ?_
  have:=run_append_grow_src (P:=P) w t t' o.type E i z K hi U W f.length m A Nf (a.eval y) B.length p (by rw[Z];exact DH) F (by
   have:=abC (f.length+B.length) Nc
   omega) wX
  rw[<-fy] at this;exact this
 have wX:m<f.length+B.length->Builtin.nextslicecap (f.length+B.length) m*i.bytes<=281474976710656:=fun h=>growslice_fits h (by rw[jI];exact R)
 cases tk with
 | no=>cases D
 | full =>
  simp only at D;split at D
  case isFalse=>cases D
  rename_i hf;cases D;simp only[mq] at S
  have F:m<f.length+B.length:=an
  exact G _ (.inl hf) (fun ha=>by rw[Rk O hf] at ha;cases ha) F (AW F (wX F))
 | own q =>
  simp only at D;split at D
  case h_2=>cases D
  rename_i k Q;split at D
  case isFalse=>cases D
  rename_i L;cases D;subst L;simp only[mq] at S;obtain⟨ez,_,S⟩:=S;have I:=O.rel q _ Q;simp only[aJ] at I;obtain⟨Ng,I⟩:=I;obtain⟨kT,S⟩:=S Ng.symm
  cases dF:(M.z q).cE with
  | none =>
   simp only[dF] at I S
   have F:m<f.length+B.length:=an
   exact G q (.inr ⟨_,Q⟩) (fun _=>by omega) F (AW F (wX F))
  | some b =>
   simp only[dF] at I S;obtain⟨vd,Cf,Cg,AQ,xs,te,hh,g7⟩:=I;obtain⟨rfl,Rx⟩:=S
   by_cases vo:f.length+B.length<=m
   ·have WI:(M.z q).sz=sz:=by
     cases Kl:f with
     | nil=>rw[Kl] at vd;simp at vd
     | cons e0 hB=>rw[<-Rx e0 (by simp[Kl]),iC e0 (by simp[Kl])]
    have AX:f.length*sz+B.length*sz<=(M.z q).cap*sz:=by rw[<-aaH];exact aaT _ an
    rw[WI] at g7 AQ;have Y:=znp (P:=P) w t t' o.type E i K hi b f.length m xs te hh (a.eval y) B.length p (by rw[Z];exact DH) vo (by rw[Z,k_,g7];exact AX);rw[<-fy] at Y;rw[Z] at Y;have yc:=setRow_heap w b xs (xs.toList.take (f.length*sz)++p++xs.toList.drop (f.length*sz+p.length)).toArray te (0,0) hh;generalize hY:(xs.toList.take (f.length*sz)++p++xs.toList.drop (f.length*sz+p.length)).toArray=ys at Y yc
    have Nh:∀ j,j<f.length*sz->ys[j]?=xs[j]?:=by intro j J;rw[<-hY];simp only[abJ,abm];rw[aaJ (by simp;omega),aaB,if_pos J];simp
    have lL:aS M H q=some b:=by simp[aS,Q,dF]
    have jT:∀ k,k≠b->(w.setRow b ys).heap[k]?=w.heap[k]?:=fun k L=>setRow_other w b k ys (fun e=>L e)
    have HJ:∀ j,j<f.length*sz->(w.setRow b ys).cell? ⟨b,j,none⟩=w.cell? ⟨b,j,none⟩:=by intro j J;rw[cell_of_row _ b j _ te (0,0) yc,cell_of_row _ b j _ te (0,0) hh,Nh j J]
    obtain⟨st,ii,r⟩:=Ww (w':=w.setRow b ys) (z:=⟨f.length+B.length,some b,m,sz⟩) O (.inr ⟨_,Q⟩) rfl rfl rfl (by simp[World.setRow])
     (fun k _ aB=>jT k (fun e=>aB (by rw[lL,e])))
     (fun k l j L N J=>by
      rw[lL] at L;cases L;rw[AQ] at N;cases N
      exact HJ j J)
     (fun k L=>by simp only[aaa.injEq] at L;subst L;exact .inr lL)
     (fun k l L _ N=>by
      rw[lL] at L;cases L;rw[AQ] at N;cases N
      exact aaT _ (by simp only;omega))
     (fun _=>⟨by simp only;omega,fun h=>by simp only at h;omega⟩)
     ⟨by simp only;omega,vo,kq,ys,te,yc,by
      have WJ:xs.toList.length=m*sz:=by rw[aaG,g7,kT]
      rw[<-kT] at AX;rw[<-hY];simp only[abn,aax,aad,aau,WJ,k_];rw[abh an]
      omega⟩
    refine⟨_,_,_,V _ _ Y,?_,st,ii,r⟩;simp only[aq];refine⟨oa,some ⟨b,0,none⟩,m,ir,by simpa using vo,⟨.inr rfl,⟨sz,aY⟩,?_⟩,?_⟩
    ·rw[Wp];refine⟨?_,?_⟩
     ·have:=cD.2.2;exact gr.step st O ii this
     ·rw[wV iC];refine WG (ah.step st O ii AU) ?_ ?_
      ·intro j u K;have J:j<p.length:=(aab.1 K).1;rw[cell_of_row _ b _ _ te (0,0) yc,<-hY];simp only[abJ,abz]
       have ai:(xs.toList.take (f.length*sz)).length=f.length*sz:=by
        have WJ:xs.toList.length=(M.z q).cap*sz:=by rw[aaG,g7]
        rw[aad,WJ];exact abh an
       rw[abm,aaW (by rw[ai];omega),ai,Nat.add_sub_cancel_left,aaJ J];exact K
      ·intro j J l N;simp only[Mm.mN,if_true,aaa.injEq] at N;subst N;rw[k_] at J;simp only[aaH,abz];omega
    ·simp only[mq,Mm.mN,decide_true,aaM,if_true,true_and,aax];exact⟨aae _,fun _=>aY⟩
   ·have F:m<f.length+B.length:=an
    exact G q (.inr ⟨_,Q⟩) (fun _=>by omega) F (AW F (wX F))
variable {P:Program} {M M':Mm} {H H1:ae} {w w':World} {e:Env} {a:Act} {n:Nat} {o:Oper} {v:V}
def Mm.move(M:Mm)(id k:Nat):Mm :=
 { M with al:=fun i=>decide (i=k)||M.al i,j:=fun i=>if i=k then M.j id else M.j i,z:=fun i=>if i=id then⟨1,none,1,0⟩ else if i=k then M.z id else M.z i }
def Mm.mw(M:Mm)(k:Nat)(z:Z):Mm:={ M with z:=fun i=>if i=k then z else M.z i }
def zCi(c:aF M w H){k:Nat}(z:Z)(f:lK H k=true):eH M H w (M.mw k z) H w/\e_ M (M.mw k z) H.length/\aF (M.mw k z) w H:=by
 have g:=Rk c f
 have bo:∀ i,aS (M.mw k z) H i=aS M H i:=by
  intro i
  by_cases h:i=k
  ·subst h;unfold aS;rw[uO.1 f]
  ·unfold aS;simp only[Mm.mw,h,if_false]
 have a:eH M H w (M.mw k z) H w :=
  { eH.refl M H w with
   oe:=fun _ _ h=>h
   jx:=fun _ l _ h=>⟨l,h,aae _⟩
   limo:=fun _ _ _=>rfl
   own:=fun b _ n=>by obtain⟨i,hi⟩:=n;rw[bo] at hi;exact⟨i,hi⟩
   fm:=rfl }
 have j:e_ M (M.mw k z) H.length:=fun i _ hi=>by
  have d:i≠k:=fun e=>by subst e;rw[g] at hi;cases hi
  simp only[Mm.mw,if_neg d];exact⟨hi,trivial,vk.refl _⟩
 refine⟨a,j,⟨c.rO,fun i b hi=>?_,fun i o b d m=>?_,c.oQ.step a c j⟩⟩
 ·have d:i≠k:=fun e=>by subst e;rw[uO.1 f] at hi;cases hi
  exact aJ.step a c j hi (fun b _=>⟨rfl,rfl⟩) (by simp only[Mm.mw,d,if_false])
 ·rw[bo] at d m;exact c.inj i o b d m
def Mm.kill(M:Mm)(id:Nat):Mm:={ M with z:=fun i=>if i=id then⟨1,none,1,0⟩ else M.z i }
def zz1{fs:List (List V)}(h:∀ f∈fs,∀ d∈f,d.pure=true):∀ c∈fs.flatten,c.fC=true:=fun c a=>by
 obtain⟨f,b,a⟩:=aa6.1 a;exact V.cr (h f b c a)
def intOf?_some{c:V}{k:Int}(h:intOf? c=some k):∃ kd,c=.int kd k:=by cases c<;>simp_all [intOf?]
def Ry{b:Option Operand}{xx:Option X}(h:oi M.fm b xx=true)(c:bj M w e a n):∀ x,xx=some x->∀ k,intOf? (x.ev e)=some k->∃ u kd,b=some u/\a.eval u=.int kd k:=by
 intro x d k f;subst d;unfold oi at h;split at h
 ·cases ‹some x=none›
 ·rename_i u y g;cases g;obtain⟨kd,i⟩:=intOf?_some f;have:=fL h c;rw[i] at this;simp only[aq] at this;exact⟨u,kd,rfl,this⟩
 ·cases h
def WK{a:Option Operand}{xx:Option X}(h:oi M.fm a xx=true)(b:xx=none):a=none:=by
 subst b;unfold oi at h
 split at h<;>simp_all
def Rz{isS:Bool}{len cap l h:Nat}{m:Bool}{lo hi mx:Option Operand}{f q smx:Option X}(z:oi M.fm lo f=true)(H:oi M.fm hi q=true)(K:oi M.fm mx smx=true)
  (I:bj M w e a n) (i:sR e len f q smx=some (l,h,m)) (Y:len<=cap) :
  l<=h/\h<=len/\(m=false->(smx=none/\(q=none->h=len))) /\
  (Instr.sliceBounds isS len cap (lo.map a.eval) (hi.map a.eval) (mx.map a.eval)).run P w=.ok (l,h,if m then h else cap) w:=by
 unfold sR at i;simp only at i;split at i
 case h_2=>cases i
 rename_i L r Z j s d;split at i
 case isFalse=>cases i
 rename_i hc;obtain⟨h1,h2,h3,h4,h5⟩:=hc;simp only[aaa.injEq,abZ.injEq] at i;obtain⟨rfl,rfl,rfl⟩:=i
 have N:∀(y:Nat) (b:BoundsCode),r.toNat<=y->∀ u,lo=some u->(Instr.sliceBound (a.eval u) y b).run P w=.ok L.toNat w:=by
  intro y b hy u t
  cases c:f with
  | none=>have:=WK z c;rw[this] at t;cases t
  | some x =>
   simp only[c] at j;obtain⟨T,kd,o,A⟩:=Ry z I x c L j;rw[t] at o;cases o;rw[A];exact run_sliceBound (P:=P) w kd L y b h1 an
 have U:∀(y:Nat) (b:BoundsCode),r.toNat<=y->∀ u,hi=some u->(Instr.sliceBound (a.eval u) y b).run P w=.ok r.toNat w:=by
  intro y b hy u t
  cases c:q with
  | none=>have:=WK H c;rw[this] at t;cases t
  | some x =>
   simp only[c] at s;obtain⟨T,kd,o,A⟩:=Ry H I x c r s;rw[t] at o;cases o;rw[A];exact run_sliceBound (P:=P) w kd r y b an an
 refine⟨an,an,?_,?_⟩
 ·intro CA
  cases Z with
  | some v=>simp at CA
  | none =>
   cases c:smx with
   | none=>exact⟨rfl,fun O=>by simp only[O,aaa.injEq] at s;omega⟩
   | some x =>
    simp only[c,aaq] at d;obtain⟨_,_,d⟩:=d;cases d
 ·cases J:mx with
  | some um =>
   cases c:smx with
   | none=>have:=WK K c;rw[this] at J;cases J
   | some x =>
    simp only[c,aaq] at d;obtain⟨k,A,d⟩:=d;subst d;obtain⟨T,kd,o,B⟩:=Ry K I x c k A;rw[J] at o;cases o;have C:k=r:=h4 k rfl;subst C;have Q:q.isSome=true:=h5 (by simp[c]);obtain⟨xh,D⟩:=aaS.1 Q;simp only[D] at s;obtain⟨R,kh,S,C⟩:=Ry H I xh D k s;have V:=fun b=>run_sliceBound (P:=P) w kd k cap b an an;have E:=U k.toNat .slice3B (aae _) R S
    cases p:lo with
    | none =>
     have:f=none:=by
      cases g:f with
      | none=>rfl
      | some x=>simp[p,g,oi] at z
     simp only[this,aaa.injEq] at j;subst j
     simp[Instr.sliceBounds,S,B,V,E]
    | some F =>
     have G:=N k.toNat .slice3C (aae _) F p
     simp[Instr.sliceBounds,S,B,V,E,G]
  | none =>
   have Aq:smx=none:=by
    cases g:smx with
    | none=>rfl
    | some x=>simp[J,g,oi] at K
   simp only[Aq,aaa.injEq] at d;subst d
   cases W:hi with
   | none =>
    have Q:q=none:=by
     cases g:q with
     | none=>rfl
     | some x=>simp[W,g,oi] at H
    simp only[Q,aaa.injEq] at s;subst s
    cases p:lo with
    | none =>
     have:f=none:=by
      cases g:f with
      | none=>rfl
      | some x=>simp[p,g,oi] at z
     simp only[this,aaa.injEq] at j;subst j
     simp[Instr.sliceBounds]
    | some F =>
     have G:=N len .sliceB an F p
     simp[Instr.sliceBounds,G]
   | some R =>
    have E:=fun b=>U cap b an R W
    cases p:lo with
    | none =>
     have:f=none:=by
      cases g:f with
      | none=>rfl
      | some x=>simp[p,g,oi] at z
     simp only[this,aaa.injEq] at j;subst j
     simp[Instr.sliceBounds,E]
    | some F =>
     have G:=N r.toNat .sliceB (aae _) F p;simp[Instr.sliceBounds,E,G]
def zwl{b off l k sz:Nat}{es:List (List V)}(h:gr M w b es off)(d:∀ e∈es,e.length=sz)(f:l<=es.length):gr M w b ((es.drop l).take k) (off+l*sz):=by
 have c:gr M w b (es.drop l) (off+l*sz):=by
  have a:=h;rw[<-aa4 l es,Wp] at a
  have:(es.take l).flatten.length=l*sz:=by rw[wV (sz:=sz) (fun e g=>d e (aam g)),aad,abh f]
  rw[this] at a;exact a.2
 rw[<-aa4 k (es.drop l),Wp] at c;exact c.1
def zGA{t J:TypeId}{x:Operand}{K:X}{lo hi mx:Option Operand}{L N smx:Option X}{base sz:Nat}{i:TypeInfo}(Y:o.op=.slice t x lo hi mx)(Z:aG M.fm x K=true)
  (oj:elemOf? P t=some J) (qq:P.info? J=some i) (dD:i.size=sz) (O:oi M.fm lo L=true) (Q:oi M.fm hi N=true) (R:oi M.fm mx smx=true)
  (B:bj M w e a n) (S:aF M w H) (f:aV base e H (.slc sz K L N smx)=some (v,H1)):dh P o a M H w v H1:=by
 have u:=fL Z B;have hu:=elemOf?_some oj
 have T:∀(g:Option Addr) (r c l h mm:Nat),a.eval x=.slice g r c->(Instr.sliceBounds true r c (lo.map a.eval) (hi.map a.eval) (mx.map a.eval)).run P w=.ok (l,h,mm) w ->
   (execOp a.eval o).run P w=.ok (.value (.slice (if mm=l then g else g.map (·.add (l*sz))) (h-l) (mm-l))) w:=by
  intro g r c l h mm h1 h2;simp[execOp,Y,h1,Instr.sliceAt,Instr.slice,run_underlying hu,h2,sizeOf,typeInfo,qq,dD]
 simp only[aV] at f;split at f
 ·rename_i y tk C;split at f
  case h_2=>cases f
  rename_i l h m D;split at f
  case isFalse=>cases f
  rename_i U;cases f;rw[C] at u;simp only[aq] at u;obtain⟨l_,g,c,E,s,z,fc⟩:=u;obtain⟨F,V,hm,G⟩:=Rz (P:=P) (w:=w) (isS:=true) O Q R B D s;refine .plain S (T g y.length c l h _ E G) ?_
  have p:((y.drop l).take (h-l)).length=h-l:=by rw[aad,aau];omega
  have CB:h<=(if m=true then h else c):=by split<;>omega
  simp only[aq]
  refine⟨fun d hd=>l_ d (aat (aam hd)),(if(if m=true then h else c)=l then g else g.map (·.add (l*sz))),(if m=true then h else c)-l,by rw[p],by rw[p];omega,?_,?_⟩
  ·by_cases q:(if m=true then h else c)=l
   ·rw[if_pos q]
    have h0:(y.drop l).take (h-l)=[]:=by rw[show h-l=0 by omega];simp
    rw[h0]
    cases g with
    | none=>exact⟨rfl,an⟩
    | some g=>exact⟨.inl rfl,⟨0,ir⟩,by simp only[gr]⟩
   ·rw[if_neg q]
    cases g with
    | none =>
     exfalso;obtain⟨xZ,RB⟩:=z;subst xZ;simp only[aa9] at V;apply q
     split<;>omega
    | some g =>
     obtain⟨b,I,sp⟩:=g;obtain⟨A,_,z⟩:=z
     by_cases W:y=[]
     ·subst W;exact⟨.inl ir,⟨0,ir⟩,by simp[gr]⟩
     have A:=A.resolve_left W;simp only at A z;subst A;simp only[aaZ,Addr.add_lit];exact⟨.inr trivial,⟨sz,fun d hd=>U d (aat (aam hd))⟩,zwl z U an⟩
  ·by_cases j:m=true\/tk=.full/\h=y.length
   ·rw[if_pos j];simp only[mq,p]
    rcases j with j|⟨j,he⟩
    ·rw[if_pos j]
    ·subst j;simp only[mq] at fc
     split<;>omega
   ·rw[if_neg j];trivial
 ·rename_i id I k hf C;split at f
  case h_2=>cases f
  rename_i l h m D;split at f
  case isFalse=>cases f
  rename_i j;cases f;rw[C] at u;simp only[aq] at u;obtain⟨ha,c,E,s⟩:=u;obtain⟨F,V,hm,G⟩:=Rz (P:=P) (w:=w) (isS:=true) O Q R B D s;refine .plain S (T _ k c l h _ E G) ?_
  have CB:h<=(if m=true then h else c):=by split<;>omega
  simp only[aq];refine⟨ha,(if m=true then h else c)-l,?_,an⟩
  congr 1
  by_cases q:(if m=true then h else c)=l
  ·rw[if_pos q]
   have:l=0:=by
    rcases j with j|⟨j,CA⟩
    ·exact j
    ·rw[CA] at q;simp at q;omega
   subst this;simp
  ·rw[if_neg q];simp[Addr.add_lit]
 ·cases f
def zz2(vs:List Value)(off:Nat):∀(k:Nat) (cs:Array Value),off+k+vs.length<=cs.size ->
  ((vs.zipIdx k).foldl (fun cs (c:Value×Nat)=>cs.setIfInBounds (off+c.2) c.1) cs).toList=cs.toList.take (off+k)++vs++cs.toList.drop (off+k+vs.length):=by
 induction vs with
 | nil=>intro k cs _;simp
 | cons v vs a =>
  intro k cs h;simp only[List.zipIdx_cons,List.foldl_cons,aaY] at h |-;rw[a (k+1) _ (by simp;omega)];simp only[Array.toList_setIfInBounds]
  have b:off+k<cs.toList.length:=by simp;omega
  have d:(cs.toList.set (off+k) v).take (off+(k+1))=cs.toList.take (off+k)++[v]:=by rw[show off+(k+1)=off+k+1 by omega,List.take_succ_eq_append_getElem (by simpa using b),List.take_set_of_le (aae _)];simp
  have e:(cs.toList.set (off+k) v).drop (off+(k+1)+vs.length)=cs.toList.drop (off+k+(vs.length+1)):=by
   rw[List.drop_set_of_lt an]
   congr 1
   omega
  rw[d,e];simp
def tU(fm:Fm)(a:Nat->Option (Nat×Nat)):List (Nat×Operand)->List (Nat×Nat×X)->Bool
 | [],[]=>true
 | (i,x)::c,(b,d,e)::qs=>(match a i with|some (f,g)=>f==b&&g==d|none=>false)&&aG fm x e&&tU fm a c qs
 | _,_=>false
def WM{d:Nat->Option (Nat×Nat)}(o:bj M w e a n):∀{ps:List (Nat×Operand)} {qs:List (Nat×Nat×X)} {cs ds:List V} {xs:Array Value},
  tU M.fm d ps qs=true->oh e cs qs=some ds->ah M w cs xs.toList->(∀ c∈cs,c.fC=true) ->
  ∃ ys,Instr.fill d xs (ps.map fun p=>(p.1,a.eval p.2))=some ys/\ah M w ds ys.toList/\∀ c∈ds,c.fC=true
 | [],[],cs,ds,xs,_,f,h,k=>by
  simp only[oh,aaa.injEq] at f;subst f
  exact⟨xs,rfl,h,k⟩
 | [],_::_,_,_,_,b,_,_,_=>by simp[tU] at b
 | _::_,[],_,_,_,b,_,_,_=>by simp[tU] at b
 | (i,x)::ps,(z,H,I)::qs,cs,ds,xs,b,f,h,k=>by
  simp only[tU,aah] at b;obtain⟨⟨l,A⟩,b⟩:=b;split at l
  case h_2=>cases l
  rename_i g q B;simp only[aah,beq_iff_eq] at l;obtain⟨rfl,rfl⟩:=l;simp only[oh] at f;split at f
  case h_2=>cases f
  rename_i r C;split at f
  case isFalse=>cases f
  rename_i j;obtain⟨s,D⟩:=Wz (fL A o) C;have E:=ic s;have t:=ic h
  have u:(a.eval x).cells.size=q:=by rw[<-aaG,E,j.1]
  have v:=zz2 (a.eval x).cells.toList g 0 xs (by simp at t |-;omega);simp only[abe,aaG,u] at v
  have y:ah M w (cs.take g++r++cs.drop (g+r.length)) (xs.toList.take g++(a.eval x).cells.toList++xs.toList.drop (g+q)):=by rw[j.1];exact yZ (yZ (wm h _) s) (x_ h _)
  rw[<-v] at y
  obtain⟨ys,F,G,m⟩:=WM o b f y (fun c b=>by
   simp only[aa8] at b
   rcases b with(b|b)|b
   ·exact k c (aam b)
   ·exact D c b
   ·exact k c (aat b))
  refine⟨ys,?_,G,m⟩;simp only[aaA,Instr.fill,B];rw[if_neg]
  ·have J:(a.eval x).cells.zipIdx.foldl (fun cs (c:Value×Nat)=>cs.setIfInBounds (g+c.2) c.1) xs=((a.eval x).cells.toList.zipIdx 0).foldl (fun cs (c:Value×Nat)=>cs.setIfInBounds (g+c.2) c.1) xs:=by rw[<-Array.foldl_toList,Array.toList_zipIdx]
   rw[<-F]
   congr 1
  ·simp only[aca,decide_eq_true_eq,not_or];simp at t;exact⟨by simp[u],an⟩
def Ko(P:Program)(t:TypeId)(i:Nat):Option (Nat×Nat) :=
 match P.underlying t with
 | some (.struct b)=>match b[i]? with
  | some f=>match P.info? f.type with
   | some a=>some (f.offset,a.size)
   | none=>none
  | none=>none
 | some (.array _ c)=>match P.info? c with
  | some a=>some (i*a.size,a.size)
  | none=>none
 | _=>none
def WN(P:Program)(t:TypeId):Bool :=
 match P.underlying t with
 | some (.struct a)=>a.all fun f=>(P.info? f.type).isSome
 | some (.array _ b)=>(P.info? b).isSome
 | _=>false
def Nk(f:Field):Sem (Nat×Nat):=do pure (f.offset,<-sizeOf f.type)
def zyp{f:Field}{a:TypeInfo}(h:P.info? f.type=some a):(Nk f).run P w=.ok (f.offset,a.size) w:=by simp[Nk,sizeOf,typeInfo,h]
def zkV:∀ fs:List Field,(∀ f∈fs,(P.info? f.type).isSome=true)->(fs.mapM Nk).run P w =
  .ok (fs.map fun f=>(f.offset,((P.info? f.type).map (·.size)).getD 0)) w
 | [],_=>by simp
 | f::fs,h=>by
  obtain⟨b,a⟩:=aaS.1 (h f ir);rw[List.mapM_cons,Sem.run_bind,zyp a,Result.andThen_ok,Sem.run_bind,zkV fs (fun g c=>h g (by simp[c])),Result.andThen_ok];simp[a]
def zpJ{fs:Array Field}(h:fs.all (fun f=>(P.info? f.type).isSome)=true):(fs.mapM Nk).run P w =
  .ok (fs.toList.map fun f=>(f.offset,((P.info? f.type).map (·.size)).getD 0)).toArray w:=by
 rw[Array.mapM_eq_mapM_toList,Sem.run_map,zkV fs.toList (fun f a=>(abc.1 h) f (by simpa using a))];rfl
def zCj{t:TypeId}{ps:Array (Nat×Operand)}{z:List V}{qs:List (Nat×Nat×X)}{base:Nat}{i:TypeInfo}{j:Value}(x:o.op=.build t ps)
  (hi:P.info? t=some i) (y:i.zero=some j) (A:r_ j.cells.toList z=true) (d:WN P t=true) (D:tU M.fm (Ko P t) ps.toList qs=true)
  (E:bj M w e a n) (F:aF M w H) (l:aV base e H (.build z qs)=some (v,H1)):dh P o a M H w v H1:=by
 simp only[aV] at l;split at l
 case h_2=>cases l
 rename_i Q G;cases l;obtain⟨g,B,I,J⟩:=WM (w:=w) E D G (Fz A) (fun c K=>V.cr (HF A c K));refine .plain (rv:=.agg g) F ?_ (by simp only[aq];exact⟨J,g.toList,ir,I⟩)
 have C:(ps.map fun p=>(p.1,a.eval p.2)).toList=ps.toList.map fun p=>(p.1,a.eval p.2):=by simp
 unfold WN at d;split at d
 ·rename_i m h
  have r:(fun k=>((m.toList.map fun f=>(f.offset,((P.info? f.type).map (·.size)).getD 0))[k]?))=Ko P t:=by
   funext k
   simp only[Ko,h,aav];rw[aal]
   cases L:m[k]? with
   | none=>rfl
   | some f =>
    have N:=Array.mem_of_getElem? L;have:=(abc.1 d) f N;obtain⟨b,q⟩:=aaS.1 this;simp[q]
  have O:=zpJ (P:=P) (w:=w) d
  have s:Instr.fill (fun k=>(m.toList.map fun f=>(f.offset,((P.info? f.type).map (·.size)).getD 0)).toArray[k]?) j.cells (ps.map fun p=>(p.1,a.eval p.2)).toList=some g:=by
   rw[C,<-B,<-r]
   congr 1
   funext k
   simp
  have u:(Instr.build t (ps.map fun p=>(p.1,a.eval p.2))).run P w=.ok (.agg g) w:=by unfold Instr.build;simp only[Sem.run_bind,zeroValue,typeInfo,run_program,hi,y,Sem.run_pure,Result.andThen_ok,run_underlying h];change ((m.mapM Nk).run P w).andThen _=_;rw[O,Result.andThen_ok];simp only[s,Sem.run_pure]
  simp only[execOp,x,Sem.run_bind,Sem.run_pure];change (Result.andThen ((Instr.build t (ps.map fun p=>(p.1,a.eval p.2))).run P w) _)=_;rw[u];rfl
 ·rename_i k R h;obtain⟨b,q⟩:=aaS.1 d
  have r:(fun k=>some (k*b.size,b.size))=Ko P t:=by
   funext k
   simp[Ko,h,q]
  have s:Instr.fill (fun k=>some (k*b.size,b.size)) j.cells (ps.map fun p=>(p.1,a.eval p.2)).toList=some g:=by rw[C,r];exact B
  have u:(Instr.build t (ps.map fun p=>(p.1,a.eval p.2))).run P w=.ok (.agg g) w:=by unfold Instr.build;simp only[Sem.run_bind,zeroValue,typeInfo,run_program,hi,y,Sem.run_pure,Result.andThen_ok,run_underlying h,sizeOf,q,s]
  simp only[execOp,x,Sem.run_bind,Sem.run_pure];change (Result.andThen ((Instr.build t (ps.map fun p=>(p.1,a.eval p.2))).run P w) _)=_;rw[u];rfl
 ·cases d
def zEX{t k:TypeId}{x:Operand}{p:X}{lo hi:Option Operand}{q r:Option X}{base sz len:Nat}{i:TypeInfo}(y:o.op=.slice t x lo hi none)(z:aG M.fm x p=true)
  (A:arrOf? P t=some (len,k)) (B:P.info? k=some i) (C:i.size=sz) (D:oi M.fm lo q=true) (E:oi M.fm hi r=true)
  (s:bj M w e a n) (F:aF M w H) (c:aV base e H (.wU len sz p q r)=some (v,H1)):dh P o a M H w v H1:=by
 have d:=fL z s;have G:=arrOf?_some A;simp only[aV] at c;split at c
 case h_2=>cases c
 rename_i l h m b;split at c
 case h_2=>cases c
 rename_i id f I;split at c
 case isFalse=>cases c
 rename_i N;cases c;rw[I] at d;simp only[aq] at d;obtain⟨J,O,Q,g⟩:=Rz (P:=P) (w:=w) (isS:=false) (mx:=none) D E rfl s b (aae len)
 have K:m=false:=by
  unfold sR at b;simp only at b;split at b
  case h_2=>cases b
  split at b
  case isFalse=>cases b
  rename_i u _;simp only[aaa.injEq,abZ.injEq] at b;simp only[aaa.injEq] at u;rw[<-b.2.2,<-u];rfl
 subst K;simp only[aaw,if_false] at g
 have L:¬len=l:=an
 refine .plain (rv:=.slice (some ⟨M.j id,f+l*sz,none⟩) (h-l) (len-l)) F ?_ (by simp only[aq];exact⟨d.1,len-l,rfl,an⟩);simp only[abD] at g;simp[execOp,y,d.2,Instr.sliceAt,Instr.sureAddr,run_underlying G,g,sizeOf,typeInfo,B,C,L,Addr.add_lit]
def WQ{α:Type}(z:List α):∀(k i:Nat),i<k*z.length->(aan k z).flatten[i]?=z[i%z.length]?
 | 0,i,h=>by simp at h
 | k+1,i,h=>by
  rw[abi,aaD]
  by_cases hi:i<z.length
  ·rw[aaJ hi,Nat.mod_eq_of_lt hi]
  ·rw[aaW an,WQ z k (i-z.length) (by rw[aaH,aa0] at h;omega),Nat.mod_eq_sub_mod (by omega:i≥z.length)]
def zqJ{sz:Nat}:∀{qs:List (Nat×X)} {es fs:List (List V)},(∀ e∈es,e.length=sz)->(∀ f∈es,∀ c∈f,c.pure=true)->AL e sz es qs=some fs ->
  oh e es.flatten (qs.map fun q=>(q.1*sz,sz,q.2))=some fs.flatten/\fs.length=es.length/\(∀ e∈fs,e.length=sz)/\(∀ f∈fs,∀ c∈f,c.pure=true)
 | [],es,fs,b,g,h=>by
  simp only[AL,aaa.injEq] at h;subst h
  exact⟨rfl,rfl,b,g⟩
 | (i,x)::qs,es,fs,b,g,h=>by
  simp only[AL] at h;split at h
  case h_2=>cases h
  rename_i ds j;split at h
  case isFalse=>cases h
  rename_i k;obtain⟨hi,d,l⟩:=k
  have m:∀ e∈es.set i ds,e.length=sz:=by
   intro f a
   rcases abr a with a|rfl
   ·exact b f a
   ·exact d
  have n:∀ f∈es.set i ds,∀ c∈f,c.pure=true:=by
   intro f a
   rcases abr a with a|rfl
   ·exact g f a
   ·exact abA.1 l
  obtain⟨o,p,r,s⟩:=zqJ m n h;refine⟨?_,by rw[p];simp,r,s⟩;simp only[aaA,oh,j];have t:=wV b
  have u:i*sz+sz<=es.length*sz:=by have:(i+1)*sz<=es.length*sz:=aaT _ hi;rw[aaH,aa0] at this;exact this
  rw[if_pos ⟨d,by rw[t,d];exact u⟩]
  have v:(es.set i ds).flatten=es.flatten.take (i*sz)++ds++es.flatten.drop (i*sz+ds.length):=by
   have w:es=es.take i++es[i]::es.drop (i+1):=by rw[List.getElem_cons_drop,aa4]
   have y:(es.take i).flatten.length=i*sz:=by rw[wV (sz:=sz) (fun f a=>b f (aam a)),aad,abh an]
   have z:es[i].length=sz:=b _ (abx hi)
   have A:es.set i ds=es.take i++ds::es.drop (i+1):=List.set_eq_take_append_cons_drop▸by rw[if_pos hi]
   rw[A]
   have B:es.flatten=(es.take i).flatten++(es[i]++(es.drop (i+1)).flatten):=by have:=congrArg List.flatten w;rw[aa7,aaD] at this;exact this
   rw[B];simp only[aa7,aaD];rw[<-y,List.take_left,d,<-z,List.drop_append,];simp
  rw[<-v];exact o
def zEY{z:List V}{a:Array Value}(h:r_ a.toList z=true)(n:0<z.length)(k:Nat) :
  ah M w (aan k z).flatten ((abl (k*z.length)).map (fun j=>a[j%a.size]!)).toList:=by
 have i:a.size=z.length:=by have:=ic (Fz (M:=M) (w:=w) h);simpa using this
 refine AI ?_ fun j c x d b=>?_
 ·rw[wV (sz:=z.length) (fun f e=>by rw[aay e])];simp
 ·have l:j<k*z.length:=by have:=(aab.1 d).1;rw[wV (sz:=z.length) (fun f e=>by rw[aay e]),abd] at this;exact this
  rw[WQ z k j l] at d;obtain⟨o,g,p⟩:=og (Fz (M:=M) (w:=w) h) d
  have m:j%z.length<a.size:=by rw[i];exact acj _ n
  have:x=o:=by simp only[ab5,abQ,aav] at b;rw[abO l] at b;simp only[aaZ,aaa.injEq] at b;rw[<-b,i];rw[getElem!_pos a _ m];simp only[aal] at g;rw[aaK m] at g;simpa using g
  rw[this];exact p
def zEZ{t h:TypeId}{l c:Operand}{m:X}{s base bytes:Nat}{z:List V}{i:TypeInfo}{b:Value}(D:o.op=.makeSlice t l c)(E:aG M.fm l m=true)(d:aG M.fm c m=true)
  (F:elemOf? P t=some h) (hi:P.info? h=some i) (G:i.size=z.length) (I:i.bytes=bytes) (J:0<bytes) (K:0<z.length) (L:i.zero=some b) (y:r_ b.cells.toList z=true)
  (A:bj M w e a n) (N:aF M w H) (g:aV base e H (.qa s bytes z m)=some (v,H1)):dh P o a M H w v H1:=by
 have O:=elemOf?_some F;have p:=fL E A;have q:=fL d A;simp only[aV] at g;split at g
 case h_2=>cases g
 rename_i kd k Q;split at g
 case isFalse=>cases g
 rename_i R;obtain⟨u,B,x⟩:=R;cases g;rw[Q] at p q;simp only[aq] at p q;have W:k.toNat<=140737488355328:=aa_ (abC _ J) x
 have S:(i.bytes:Int)*k<=281474976710656:=by
  rw[I]
  have Y:((k.toNat*bytes:Nat):Int)=(bytes:Int)*k:=by rw[Int.natCast_mul,Int.toNat_of_nonneg B,Int.mul_comm]
  omega
 have C:=run_make (P:=P) w t h i b O hi L kd kd k k B (Int.le_refl _) S an
 have T:madeCells b.cells (k.toNat*i.size)=(abl (k.toNat*z.length)).map (fun j=>b.cells[j%b.cells.size]!):=by rw[G];rfl
 rw[T] at C
 obtain⟨st,U,r⟩:=Rl (t:=h) N u (zEY y K k.toNat) (fun c d=>by
  obtain⟨f,u,d⟩:=aa6.1 d;rw[aay u] at d
  exact V.cr (HF y c d))
 refine⟨.value (.slice (some ⟨w.heap.size,0,none⟩) k.toNat k.toNat),_,_,?_,?_,st,U,r⟩
 ·simp only[execOp,D,p,q,Sem.run_bind,Sem.run_pure,C,Result.andThen_ok]
 ·simp only[aq,Mm.iV,decide_true,aaM,if_true,true_and];exact⟨k.toNat,rfl,aae _⟩
def zsU{t el:TypeId}{k:Nat}{ps:Array (Nat×Operand)}{z:List V}{qs:List (Nat×X)}{i:TypeInfo}{zv:Value}(ho:o.op=.buildSlice t k ps)
  (oj:elemOf? P t=some el) (hi:P.info? el=some i) (dD:i.size=z.length) (vr:0<z.length) (hk:k*z.length<=16777216) (hz:i.zero=some zv) (nJ:r_ zv.cells.toList z=true)
  (hp:tU M.fm (fun j=>some (j*z.length,z.length)) ps.toList (qs.map fun q=>(q.1*z.length,z.length,q.2))=true)
  (ht:bj M w e a n) {cs:List V} (h1:oh e (aan k z).flatten (qs.map fun q=>(q.1*z.length,z.length,q.2))=some cs) :
  ∃ ys:Array Value,(execOp a.eval o).run P w=.ok (.value (.slice (some ⟨w.heap.size,0,none⟩) k k)) (w.alloc (.cells ys el))/\ah M w cs ys.toList/\∀ c∈cs,c.fC=true:=by
 have hu:=elemOf?_some oj;have WT:=HF nJ
 have sS:zv.cells.size=z.length:=by have:=ic (Fz (M:=M) (w:=w) nJ);simpa using this
 have Nm:ah M w (aan k z).flatten ((abl (k*i.size)).map (fun j=>zv.cells[j%zv.cells.size]!)).toList:=by
  refine AI ?_ fun j c x hc hx=>?_
  ·rw[wV (sz:=z.length) (fun f hf=>by rw[aay hf])];simp[dD]
  ·have hj:j<k*z.length:=by have:=(aab.1 hc).1;rw[wV (sz:=z.length) (fun f hf=>by rw[aay hf]),abd] at this;exact this
   rw[WQ z k j hj] at hc;obtain⟨x',aR,he⟩:=og (Fz (M:=M) (w:=w) nJ) hc
   have hm:j%z.length<zv.cells.size:=by rw[sS];exact acj _ vr
   have:x=x':=by simp only[ab5,abQ,aav,dD] at hx;rw[abO hj] at hx;simp only[aaZ,aaa.injEq] at hx;rw[<-hx,sS];rw[getElem!_pos zv.cells _ hm];simp only[aal] at aR;rw[aaK hm] at aR;simpa using aR
   rw[this];exact he
 obtain⟨ys,hf,hy,yf⟩:=WM (w:=w) ht hp h1 Nm (fun c hc=>by
  obtain⟨f,hf,hc⟩:=aa6.1 hc;rw[aay hf] at hc
  exact V.cr (WT c hc))
 have bO:(execOp a.eval o).run P w=.ok (.value (.slice (some ⟨w.heap.size,0,none⟩) k k)) (w.alloc (.cells ys el)):=by
  have pW:(ps.map fun p=>(p.1,a.eval p.2)).toList=ps.toList.map fun p=>(p.1,a.eval p.2):=by simp
  have hb:(Instr.buildSlice t k (ps.map fun p=>(p.1,a.eval p.2))).run P w=.ok (.slice (some ⟨w.heap.size,0,none⟩) k k) (w.alloc (.cells ys el)):=by
   unfold Instr.buildSlice;rw[<-pW] at hf;simp only[Sem.run_bind,run_underlying hu,Result.andThen_ok,sizeOf,typeInfo,run_program,hi,Sem.run_pure];rw[if_neg (by rw[dD];omega)]
   have cK:∀ xs:Array Value,Instr.fill (fun WU=>some (WU*i.size,i.size)) xs (ps.map fun p=>(p.1,a.eval p.2)).toList=some ys ->
     Sem.run P (match Instr.fill (fun WU=>some (WU*i.size,i.size)) xs (ps.map fun p=>(p.1,a.eval p.2)).toList with
      | some cells=>(do pure (.slice (some (<-newRow el cells)) k k):Sem Value)
      | _ => stuck "buildSlice: a part of the wrong size") w = .ok (.slice (some ⟨w.heap.size, 0, none⟩) k k) (w.alloc (.cells ys el)) := by
    intro xs hx;rw[hx];simp[newRow]
   by_cases WX:k*i.size=0
   ·rw[if_pos WX]
    have g7:(abl (k*i.size)).map (fun j=>(#[]:Array Value)[j%(#[]:Array Value).size]!)=(abl (k*i.size)).map (fun j=>zv.cells[j%zv.cells.size]!):=by apply ab_;rw[WX];simp
    rw[Sem.run_bind,Sem.run_pure,Result.andThen_ok];refine cK _ ?_;rw[g7];simpa[dD] using hf
   ·rw[if_neg WX];simp only[Sem.run_bind,zeroValue,typeInfo,run_program,hi,hz,Sem.run_pure,Result.andThen_ok];refine cK _ ?_;simpa[dD] using hf
  simp only[execOp,ho,Sem.run_bind,Sem.run_pure];change (Result.andThen ((Instr.buildSlice t k (ps.map fun p=>(p.1,a.eval p.2))).run P w) _)=_;rw[hb];rfl
 exact⟨ys,bO,hy,yf⟩
def zqK{t b:TypeId}{k:Nat}{ps:Array (Nat×Operand)}{z:List V}{qs:List (Nat×X)}{i:TypeInfo}{g:Value}(m:o.op=.buildSlice t k ps)
  (p:elemOf? P t=some b) (hi:P.info? b=some i) (r:i.size=z.length) (s:0<z.length) (u:k*z.length<=16777216) (v:i.zero=some g) (h:r_ g.cells.toList z=true)
  (x:tU M.fm (fun j=>some (j*z.length,z.length)) ps.toList (qs.map fun q=>(q.1*z.length,z.length,q.2))=true)
  (y:bj M w e a n) {es:List (List V)} (A:AL e z.length (aan k z) qs=some es) :
  ∃ ys:Array Value,(execOp a.eval o).run P w=.ok (.value (.slice (some ⟨w.heap.size,0,none⟩) k k)) (w.alloc (.cells ys b))/\ah M w es.flatten ys.toList/\es.length=k/\(∀ f∈es,f.length=z.length)/\(∀ f∈es,∀ c∈f,c.pure=true):=by
 have B:=HF h;obtain⟨C,l,D,E⟩:=zqJ (fun f d=>by rw[aay d]) (fun f d=>by rw[aay d];exact B) A;rw[abd] at l;obtain⟨ys,F,G,_⟩:=zsU m p hi r s u v h x y C;exact⟨ys,F,G,l,D,E⟩
def zz3{t b:TypeId}{k base:Nat}{ps:Array (Nat×Operand)}{z:List V}{qs:List (Nat×X)}{i:TypeInfo}{d:Value}(m:o.op=.buildSlice t k ps)
  (p:elemOf? P t=some b) (hi:P.info? b=some i) (s:i.size=z.length) (x:0<z.length) (y:k*z.length<=16777216) (A:i.zero=some d) (B:r_ d.cells.toList z=true)
  (C:tU M.fm (fun j=>some (j*z.length,z.length)) ps.toList (qs.map fun q=>(q.1*z.length,z.length,q.2))=true)
  (D:bj M w e a n) (f:aF M w H) (c:aV base e H (.bslice k z qs)=some (v,H1)):dh P o a M H w v H1:=by
 simp only[aV] at c;split at c
 case h_2=>cases c
 rename_i O E;cases c;obtain⟨F,G,I,g,J,K⟩:=zqK m p hi s x y A B C D E;obtain⟨st,h,r⟩:=M7 (M':=M.jx w.heap.size none) f (iP.alloc w (.cells F b)) (Same.jx M _ _);refine⟨_,_,_,G,?_,st,h,r⟩;simp only[aq];refine⟨K,some ⟨w.heap.size,0,none⟩,k,by rw[g],an,⟨.inr rfl,⟨z.length,J⟩,?_⟩,by simp only[mq];exact g.symm⟩;refine WG (ah.step st f h I) ?_ ?_
 ·intro j u L;rw[cell_of_row _ w.heap.size (0+j) _ b (0,0) (heap_alloc_new w _)];simpa using L
 ·intro j _ l N;simp[Mm.jx] at N
def zyq{t c:TypeId}{k base s:Nat}{ps:Array (Nat×Operand)}{z:List V}{qs:List (Nat×X)}{i:TypeInfo}{h:Value}(C:o.op=.buildSlice t k ps)
  (D:elemOf? P t=some c) (hi:P.info? c=some i) (E:i.size=z.length) (F:0<z.length) (G:k*z.length<=16777216) (I:i.zero=some h) (J:r_ h.cells.toList z=true)
  (K:tU M.fm (fun j=>some (j*z.length,z.length)) ps.toList (qs.map fun q=>(q.1*z.length,z.length,q.2))=true)
  (L:bj M w e a n) (l:aF M w H) (b:aV base e H (.jJ s k z qs)=some (v,H1)):dh P o a M H w v H1:=by
 simp only[aV] at b;split at b
 case h_2=>cases b
 rename_i m N;split at b
 case isFalse=>cases b
 rename_i p;cases b;obtain⟨d,O,f,r,u,Q⟩:=zqK C D hi E F G I J K L N
 have x:d.size=k*z.length:=by rw[<-aaG,ic f,wV u,r]
 have R:m.flatten.length=k*z.length:=by rw[wV u,r]
 obtain⟨y,A,B⟩:=zCi l ⟨0,none,k,z.length⟩ p
 obtain⟨S,T,U⟩:=M8 (ob:=.cells d c) (blk0:=.grow m.flatten z.length true) B p rfl fun g W=>by
  simp only[aJ];refine⟨zz1 Q,by simp[Mm.iV],by simp[Mm.iV,Mm.mw],by simp[Mm.iV,Mm.mw],d,c,?_,by simp[Mm.iV,Mm.mw,x],?_,fun _=>by rw[x,R]⟩
  ·simp only[Mm.iV,if_true];exact heap_alloc_new w _
  ·rw[zuD f];exact ah.step g B W (ah.step y l A f)
 refine⟨_,_,_,O,?_,y.trans S,A.trans T (aae _),U⟩;simp only[aq];exact⟨by simp[Mm.iV],k,by simp[Mm.iV,Mm.mw],aae _,fun _=>by simp[Mm.iV,Mm.mw]⟩
def RC{sz:Nat}:∀{k:Nat} {cs:List V},k*sz<=cs.length->(pE sz k cs).flatten=cs.take (k*sz)/\(pE sz k cs).length=k/\∀ e∈pE sz k cs,e.length=sz/\∀ c∈e,c∈cs
 | 0,cs,_=>by simp[pE]
 | k+1,cs,h=>by
  rw[aaH,aa0] at h;obtain⟨d,f,b⟩:=RC (sz:=sz) (k:=k) (cs:=cs.drop sz) (by rw[aau];omega);refine⟨?_,by simp[pE,f],?_⟩
  ·simp only[pE,aaD,d];rw[aaH,aa0,Nat.add_comm,List.take_add]
  ·intro e he;simp only[pE,acg] at he
   rcases he with rfl|he
   ·exact⟨by rw[aad];omega,fun c a=>aam a⟩
   ·exact⟨(b e he).1,fun c a=>aat ((b e he).2 c a)⟩
def zE0{t Y:TypeId}{x:Operand}{Z:X}{base:Nat}(z:o.op=.convert t t x)(hx:aG M.fm x Z=true)(hs:P.underlying t=some (.slice Y))(iF:P.underlying Y=some (.int .u8))
  (ht:bj M w e a n) (q:aF M w H) (r:aV base e H (.mark Z)=some (v,H1)):dh P o a M H w v H1:=by
 have F:=fL hx ht;simp only[aV] at r;split at r
 case h_2=>cases r
 rename_i id k hp;split at r
 case h_2=>cases r
 rename_i cs sz G;split at r
 case isFalse=>cases r
 rename_i A;obtain⟨rfl,rfl,I⟩:=A;cases r;have I:=abA.1 I;rw[hp] at F;simp only[aq] at F;obtain⟨ez,B,fy,J,K⟩:=F;have cS:=q.rel id _ G;simp only[aJ] at cS;obtain⟨yf,L,N,Rx,xs,O,hh,g7,hE,Q⟩:=cS;have kT:=K N;have yg:=Q trivial;rw[aci,<-kT] at g7;have ai:id<H.length:=(aab.1 G).1;have lI:xs.toList.take cs.length=xs.toList:=abG (by rw[aaG,yg];exact aae _);rw[lI] at hE;obtain⟨w',C⟩:∃ w',w'=w.freeze ⟨M.j id,xs.size,none⟩ 1:=⟨_,rfl⟩
 have R:∀ b,b≠M.j id->w'.heap[b]?=w.heap[b]?:=fun b D=>by
  rw[C];simp only[World.freeze];rw[if_neg (by decide)];simp only[aa5];rw[if_neg (fun h=>D h.symm)]
 have mS:w'.heap[M.j id]?=some (.cells xs O (xs.size,xs.size+1)):=by rw[C];simp only[World.freeze];rw[if_neg (by decide)];simp only[aa5,if_true,hh];rfl
 have dD:w'.heap.size=w.heap.size:=by rw[C];simp only[World.freeze];rw[if_neg (by decide)];simp only[Array.size_modify]
 have S:w'.os=w.os/\w'.tape=w.tape/\w'.output=w.output:=by rw[C];simp only[World.freeze];rw[if_neg (by decide)];exact⟨rfl,rfl,rfl⟩
 have fH:w.shape? (M.j id)=some (O,xs.size):=by simp[World.shape?,hh]
 have bO:(execOp a.eval o).run P w=.ok (.value (.slice (some ⟨M.j id,0,none⟩) cs.length B)) w':=by rw[C];simp[execOp,z,fy,convert,run_underlying hs,run_underlying iF,markStringish,fH]
 obtain⟨m,f⟩:∃ m,m=(M.kill id).cH (M.j id) cs.length:=⟨_,rfl⟩
 have T:aS M H id=some (M.j id):=by simp[aS,G]
 have s:(H.set id (some (aw.zone 1)))[id]?=some (some (.zone 1)):=aap ai
 have U:aS m (H.set id (some (.zone 1))) id=none:=by rw[f];unfold aS;rw[s];simp[Mm.kill,Mm.cH]
 have bo:∀ i,i≠id->aS m (H.set id (some (.zone 1))) i=aS M H i:=by intro i h;rw[f];unfold aS;rw[getElem?_set_ne h];simp only[Mm.kill,Mm.cH,h,if_false]
 have u:∀ i b,aS m (H.set id (some (.zone 1))) i=some b->i≠id/\aS M H i=some b:=by
  intro i b hi
  by_cases h:i=id
  ·subst h;rw[U] at hi;cases hi
  ·rw[bo i h] at hi;exact⟨h,hi⟩
 have p:eH M H w m (H.set id (some (.zone 1))) w':={
  os:=S.1
  tape:=S.2.1
  output:=S.2.2
  size:=by rw[dD];exact aae _
  same:=fun b _ z=>R b fun e=>z ⟨id,by rw[T,e]⟩
  cells:=fun b l o _ g z=>by
   by_cases e:b=M.j id
   ·subst e;rw[L] at g;cases g;omega
   ·exact World.cell?_of_block (w:=w) (R b e)
  oe:=fun b _ g=>by
   rw[f];simp only[Mm.cH,Mm.kill]
   rw[if_neg];· exact g
   intro e;subst e;rw[L] at g;cases g
  jx:=fun b l' _ g=>by
   rw[f];simp only[Mm.cH,Mm.kill]
   by_cases e:b=M.j id
   ·subst e;rw[L] at g;cases g;exact⟨cs.length,ir,abF _⟩
   ·exact⟨l',by rw[if_neg e];exact g,aae _⟩
  limo:=fun b _ z=>by
   rw[f];simp only[Mm.cH,Mm.kill];rw[if_neg];intro e;exact z ⟨id,by rw[T,e]⟩
  own:=fun b _ HK=>by obtain⟨i,hi⟩:=HK;exact⟨i,(u i b hi).2⟩
  fm:=by rw[f];rfl }
 have E:e_ M m H.length:=fun i _ hi=>by
  rw[f];refine⟨hi,rfl,?_⟩;simp only[Mm.kill,Mm.cH];split
  ·rename_i d;subst d;exact⟨by simp[N],fun h=>by simp[N] at h⟩
  ·exact vk.refl _
 have hR:aF m w' (H.set id (some (.zone 1))):=by
  refine⟨fun i=>?_,fun i b hi=>?_,fun i i' b V d=>q.inj i i' b (u i b V).2 (u i' b d).2,q.oQ.step p q E⟩
  ·by_cases d:i=id
   ·subst d;rw[f];simp only[Mm.kill,Mm.cH,ez,true_iff];exact⟨_,s⟩
   ·rw[getElem?_set_ne d,f];exact q.rO i
  ·by_cases d:i=id
   ·subst d;rw[s] at hi;cases hi;rw[f];simp[aJ,Mm.kill,Mm.cH]
   ·rw[getElem?_set_ne d] at hi;refine aJ.step p q E hi (fun b jk=>?_) (by rw[f];simp only[Mm.kill,Mm.cH,d,if_false]);have D:b≠M.j id:=fun e=>d (q.inj i id b jk (by rw[T,e]));exact⟨R b D,by rw[f];simp only[Mm.cH,Mm.kill];rw[if_neg D]⟩
 refine⟨_,_,m,bO,?_,p,E,hR⟩;obtain⟨V,d,h3⟩:=RC (sz:=1) (k:=cs.length) (cs:=cs) an;simp only[aq];refine⟨fun e W c A=>I c ((h3 e W).2 c A),some ⟨M.j id,0,none⟩,B,by rw[d],by rw[d];exact J,⟨.inr rfl,⟨1,fun e W=>(h3 e W).1⟩,?_⟩,?_⟩
 ·rw[Ke,V,abG an];refine DD fun i c A=>?_;obtain⟨y,hy,WY⟩:=og (ah.step p q E hE) A;refine⟨y,?_,fun l g=>?_,WY⟩
  ·rw[cell_of_row w' (M.j id) (0+i) xs O _ mS];simpa using hy
  ·rw[f] at g;simp only[Mm.cH,if_true,aaa.injEq] at g;have:=(aab.1 A).1;show(0:Nat)+i<l;omega
 ·simp only[mq,d];omega
def zyr{t c:TypeId}{k base sp:Nat}{ps:Array (Nat×Operand)}{z:List V}{qs:List (Nat×X)}{i:TypeInfo}{d:Value}(f:o.op=.buildSlice t k ps)
  (g:elemOf? P t=some c) (hi:P.info? c=some i) (h:i.size=z.length) (l:0<z.length) (m:k*z.length<=16777216) (p:i.zero=some d) (s:r_ d.cells.toList z=true)
  (u:tU M.fm (fun j=>some (j*z.length,z.length)) ps.toList (qs.map fun q=>(q.1*z.length,z.length,q.2))=true)
  (x:bj M w e a n) (y:aF M w H) (b:aV base e H (.bsliceR sp k z qs)=some (v,H1)):dh P o a M H w v H1:=by
 simp only[aV] at b;split at b
 case isFalse=>cases b
 rename_i A;split at b
 case h_2=>cases b
 rename_i ds B;cases b;obtain⟨G,C,D,E⟩:=zsU f g hi h l m p s u x B;obtain⟨st,F,r⟩:=Rl (t:=c) y A D E;refine⟨_,_,_,C,?_,st,F,r⟩;simp only[aq,Mm.iV,decide_true,aaM,if_true,true_and];exact⟨k,rfl,aae _⟩
def zE1{c:V}{ds:List V}{x:Value}{sz:Nat}(E:aF M w H)(B:0<sz)(h:aq M w c x)(l:Ri H sz c=some ds)(k:Nat)(o:k<=ds.length/sz) :
  (Builtin.lenOf x).run P w=.ok (ds.length/sz) w/\(∀ d∈ds,d.fC=true)/\∃ xs:List Value,(Builtin.firstCells sz k x).run P w=.ok xs.toArray w/\ah M w (ds.take (k*sz)) xs/\xs.length=k*sz:=by
 have F:k*sz<=ds.length:=aa_ (aaT _ o) (Nat.div_mul_le_self _ _)
 cases c<;>simp only[Ri,reduceCtorEq] at l
 case vs es tk =>
  split at l
  case isFalse=>cases l
  rename_i t;cases l
  have t:∀ e∈es,e.length=sz:=fun e r=>by have:=abA.1 t e r;simpa using this
  have G:=wV t
  have i:es.flatten.length/sz=es.length:=by rw[G];exact abS _ B
  rw[i] at o |-;simp only[aq] at h;obtain⟨I,v,n,rfl,J,p,_⟩:=h
  refine⟨by simp[Builtin.lenOf],fun d hd=>by
   obtain⟨f,K,hd⟩:=aa6.1 hd
   exact V.cr (I f K d hd),?_⟩
  cases v with
  | none =>
   obtain⟨rfl,rfl⟩:=p
   have:k=0:=by simpa using o
   subst this
   exact⟨[],by simp[Builtin.firstCells],by simp[ah],ir⟩
  | some v =>
   obtain⟨b,a,sp⟩:=v;obtain⟨s,_,p⟩:=p
   by_cases L:k=0
   ·subst L;exact⟨[],run_firstCells_some w sz 0 ⟨b,a,sp⟩ es.length n [] ir (fun j u g=>by simp at g),by simp[ah],ir⟩
   have N:es≠[]:=by rintro rfl;simp at o;omega
   have s:=s.resolve_left N;simp only at s p;subst s;obtain⟨xs,C,O⟩:=Rw p;have y:=ic C;have z:=wm C (k*sz)
   refine⟨xs.take (k*sz),run_firstCells_some w sz k ⟨b,a,none⟩ es.length n (xs.take (k*sz)) (by rw[aad];omega) (fun j u g=>by
    rw[Addr.add_mid];rw[aaB] at g;split at g
    ·exact O j u g
    ·cases g),z,by rw[aad];omega⟩
 case rs id a m y5 =>
  split at l
  case h_2=>cases l
  rename_i A Q;split at l
  case isFalse=>cases l
  rename_i U;cases l
  have q:((A.drop a).take (m*sz)).length=m*sz:=by rw[aad,aau];omega
  have i:((A.drop a).take (m*sz)).length/sz=m:=by rw[q];exact abS _ B
  rw[i] at o |-;simp only[aq] at h;obtain⟨_,n,rfl,J⟩:=h;have D:=E.rel id _ Q;simp only[aJ] at D;obtain⟨R,_,xs,S,T,r⟩:=D;have y:=ic r;have z:=wm (wm (x_ r a) (m*sz)) (k*sz);have W:k*sz<=m*sz:=aaT _ o
  refine⟨by simp[Builtin.lenOf],fun d hd=>R d (aat (aam hd)),_,run_firstCells_some w sz k ⟨M.j id,a,none⟩ m n ((((xs.toList.take A.length).drop a).take (m*sz)).take (k*sz)) (by
   rw[aad,aad,aau,y];omega) (fun j u g=>by
    rw[Addr.add_mid,cell_of_row w (M.j id) (a+j) xs S (0,0) T];rw[aaB] at g;split at g
    ·rw[aaB] at g;split at g
     ·rw[aba] at g;exact Rr g
     ·cases g
    ·cases g),z,by rw[aad,aad,aau,y];omega⟩
def zGB{t t' D:TypeId}{x y:Operand}{E F:X}{base sz:Nat}{i:TypeInfo}(Q:o.op=.call { callee:=.builtin .copy,args:=#[x,y],argTypes:=#[t,t'] })
  (R:aG M.fm x E=true) (S:aG M.fm y F=true) (T:elemOf? P t=some D) (hi:P.info? D=some i) (U:i.size=sz) (G:bj M w e a n) (u:aF M w H)
  (g:aV base e H (.Fw sz E F)=some (v,H1)):dh P o a M H w v H1:=by
 have z:=fL R G;have V:=fL S G;have W:=elemOf?_some T;simp only[aV] at g;split at g
 case h_2=>cases g
 rename_i id b m y5 Y;split at g
 case h_2=>cases g
 rename_i h ds I Z;split at g
 case isFalse=>cases g
 rename_i d;obtain⟨ha,hz⟩:=d;cases g;rw[Y] at z;simp only[aq] at z;obtain⟨_,hf,fy,kT⟩:=z;obtain⟨k,q⟩:∃ k,k=min (ds.length/sz) m:=⟨_,rfl⟩;rw[<-q]
 have JX:k<=m:=by rw[q];exact Nat.min_le_right _ _
 obtain⟨l,J,xs,wN,A,B⟩:=zE1 (P:=P) u hz V Z k (by rw[q];exact Nat.min_le_left _ _);have K:=u.rel id _ I;simp only[aJ] at K;obtain⟨L,_,f,te,N,C⟩:=K;have jQ:=ic C;have jF:k*sz<=m*sz:=aaT _ JX;have WZ:=ic A;have q_:=zuE A (fun c d=>J c (aam d))
 have O:h.length<=f.toList.length:=by rw[aad] at jQ;omega
 have hg:h.length<=f.size:=by simpa using O
 have p:=run_storeCells_at P (M.j id) b te xs 0 f w N (by rw[B];omega) q_;simp only[abe] at p
 obtain⟨s,ii,r⟩:=Wv (ds:=h.take b++ds.take (k*sz)++h.drop (b+k*sz)) u I N (ys:=(f.toList.take b++xs++f.toList.drop (b+xs.length)).toArray)
  (by
   rw[show(h.take b++ds.take (k*sz)++h.drop (b+k*sz)).length=h.length by simp only[aax,aad,aau] at WZ |-;omega];simp only[];rw[zqG O (by rw[B];omega)];refine yZ (yZ (wm C b) A) ?_;rw[B]
   exact x_ C _)
  (fun c d=>by
   simp only[aa8] at d
   rcases d with(d|d)|d
   ·exact L c (aam d)
   ·exact J c (aam d)
   ·exact L c (aat d))
 refine⟨.value (.int .i64 k),_,_,?_,by simp only[aq],s,ii,r⟩;have W2:Nat.min (ds.length/sz) m=k:=q.symm;simp[execOp,Q,resolve,invoke,builtin,fy,Builtin.copy_,run_underlying W,l,W2,sizeOf,typeInfo,hi,U,wN,p,goInt]
def fP(P:Program)(t:TypeId):Bool:=match P.underlying t with|some d=>d.isRow|none=>false
def Kp(p:TypeId->Option (List Kd)):Nat->List Field->Option (List Kd)
 | _,[]=>some []
 | off, f :: fs => if f.name ≠ "_" ∧ f.offset = off then
   match p f.type with
   | some ks=>match Kp p (off+ks.length) fs with
    | some rs=>some (ks++rs)
    | none=>none
   | none=>none
  else none
def uQ(P:Program):Nat->TypeId->Option (List Kd)
 | 0,_=>none
 | k+1,t =>
  match(match P.underlying t with
   | some (.int _)=>some [Kd.int]
   | some .bool=>some [Kd.bool]
   | some .string=>some [Kd.str]
   | some (.struct b)=>if P.stoodInHeld t=false then Kp (uQ P k) 0 b.toList else none
   | some (.array m c)=>match uQ P k c with
    | some a=>some (aan m a).flatten
    | none=>none
   | _=>none) with
  | some a=>if iv P t a.length (fP P t)=true then some a else none
  | none=>none
def W3{k:Nat}{t:TypeId}{ks:List Kd}(h:uQ P k t=some ks):iv P t ks.length (fP P t)=true:=by
 cases k with
 | zero=>simp[uQ] at h
 | succ k =>
  simp only[uQ] at h;split at h
  ·split at h
   ·rename_i a;cases h;exact a
   ·cases h
  ·cases h
def Kq:∀{ks:List Kd} {cs ds:List V} {b:Bool},cC ks cs ds=some b->cs.length=ks.length/\ds.length=ks.length
 | [],[],[],_,_=>⟨rfl,rfl⟩
 | [],[],_::_,_,h=>by simp[cC] at h
 | [],_::_,_,_,h=>by simp[cC] at h
 | _::_,[],_,_,h=>by simp[cC] at h
 | _::_,_::_,[],_,h=>by simp[cC] at h
 | k::ks,c::cs,d::ds,b,h=>by
  simp only[cC] at h;split at h
  ·rename_i x y e a;have:=Kq a;simp[this.1,this.2]
  ·cases h
def Nn:∀{ks rs:List Kd} {cs ds:List V} {b:Bool},cC (ks++rs) cs ds=some b ->
  ∃ x y,cC ks (cs.take ks.length) (ds.take ks.length)=some x/\cC rs (cs.drop ks.length) (ds.drop ks.length)=some y/\b=(x&&y)
 | [],rs,cs,ds,b,h=>⟨true,b,by simp[cC],by simpa using h,ir⟩
 | k::ks,rs,[],_,b,h=>by simp[cC] at h
 | k::ks,rs,_::_,[],b,h=>by simp[cC] at h
 | k::ks,rs,c::cs,d::ds,b,h=>by
  simp only[ab4,cC] at h;split at h
  ·rename_i x y a e;obtain⟨f,g,i,j,rfl⟩:=Nn e;simp only[aaa.injEq] at h;refine⟨x&&f,g,?_,by simpa using j,by rw[<-h,Bool.and_assoc]⟩;simp only[aaY,List.take_succ_cons,cC,a,i]
  ·cases h
def DJ(P:Program)(d:Nat)(t:TypeId)(ks:List Kd):Prop :=
 ∀(M:Mm) (w a:World) (c ds:List V) (xs e:List Value) (b:Bool),ah M w c xs->ah M w ds e->cC ks c ds=some b ->
  (Op.equalIn d t (oZ (fP P t) xs) (oZ (fP P t) e)).run P a=.ok b a
def Kr{t:TypeId}{sz off:Nat}{a:Bool}{xs:List Value}(b:iv P t sz a=true)(c:off+sz<=xs.length) :
  (part t xs.toArray off).run P w=.ok (oZ a ((xs.drop off).take sz)) w:=by
 have:=WE (P:=P) (w:=w) (xs:=xs.toArray) b (by simpa using c);simpa using this
def zpj{d:Nat}{p:TypeId->Option (List Kd)}(i:∀ t ks,p t=some ks->iv P t ks.length (fP P t)=true/\DJ P d t ks):∀{fs:List Field} {off:Nat} {ks:List Kd} {cs ds:List V} {xs ys:List Value} {b:Bool} {M:Mm} {w w2:World},
  Kp p off fs=some ks->ah M w cs xs->ah M w ds ys->off<=xs.length->off<=ys.length->cC ks (cs.drop off) (ds.drop off)=some b->(Op.eqFields d xs.toArray ys.toArray fs).run P w2=.ok b w2
 | [],off,ks,cs,ds,xs,ys,b,M,w,w2,a,c,e,m,n,h=>by
  simp only[Kp,aaa.injEq] at a;subst a
  have:b=true:=by
   cases o:cs.drop off<;>cases hd:ds.drop off<;>rw[o,hd] at h<;>simp[cC] at h
   exact h
  subst this
  simp[Op.eqFields]
 | f::fs,off,ks,cs,ds,xs,ys,b,M,w,w2,a,c,e,m,n,h=>by
  simp only[Kp] at a;split at a
  case isFalse=>cases a
  rename_i q;obtain⟨r,s⟩:=q;split at a
  case h_2=>cases a
  rename_i j u;split at a
  case h_2=>cases a
  rename_i rs v;cases a;obtain⟨k,g⟩:=i _ _ u;obtain⟨x,y,l,z,rfl⟩:=Nn h;have G:=ic c;have H:=ic e;obtain⟨A,B⟩:=Kq l;simp only[aad,aau] at A B;have C:=Kr (P:=P) (w:=w2) (off:=off) (xs:=xs) k an;have D:=Kr (P:=P) (w:=w2) (off:=off) (xs:=ys) k an;have E:=g M w w2 _ _ _ _ x (wm (x_ c off) j.length) (wm (x_ e off) j.length) l;have F:=zpj (w2:=w2) i v c e an an (by simpa[abk] using z)
  simp only[Op.eqFields,s];rw[if_pos r];simp only[Sem.run_bind,C,D,E,Result.andThen_ok];cases x
  ·simp
  ·simpa using F
def zqL{d:Nat}{c:TypeId}{ks:List Kd}(g:iv P c ks.length (fP P c)=true)(a:DJ P d c ks):∀{m off:Nat} {cs ds:List V} {xs ys:List Value} {b:Bool} {M:Mm} {w w2:World},
  ah M w cs xs->ah M w ds ys->off*ks.length<=xs.length->off*ks.length<=ys.length->cC (aan m ks).flatten (cs.drop (off*ks.length)) (ds.drop (off*ks.length))=some b ->
  (Op.eqItems d c ks.length xs.toArray ys.toArray (ab3 off m)).run P w2=.ok b w2
 | 0,off,cs,ds,xs,ys,b,M,w,w2,e,f,j,k,h=>by
  simp only[List.replicate_zero,aaV] at h
  have:b=true:=by
   cases l:cs.drop (off*ks.length)<;>cases hd:ds.drop (off*ks.length)<;>rw[l,hd] at h<;>simp[cC] at h
   exact h
  subst this
  simp[Op.eqItems]
 | m+1,off,cs,ds,xs,ys,b,M,w,w2,e,f,j,k,h=>by
  rw[abi,aaD] at h;obtain⟨x,y,i,n,rfl⟩:=Nn h;have v:=ic e;have z:=ic f;obtain⟨o,p⟩:=Kq i;simp only[aad,aau] at o p;have q:=Kr (P:=P) (w:=w2) (off:=off*ks.length) (xs:=xs) g an;have r:=Kr (P:=P) (w:=w2) (off:=off*ks.length) (xs:=ys) g an;have s:=a M w w2 _ _ _ _ x (wm (x_ e _) ks.length) (wm (x_ f _) ks.length) i
  have t:(off+1)*ks.length=off*ks.length+ks.length:=by rw[aaH,aa0]
  have u:=zqL (w2:=w2) (m:=m) (off:=off+1) g a e f an an (by rw[t];simpa[abk] using n);rw[ab6];simp only[Op.eqItems,Sem.run_bind,q,r,s,Result.andThen_ok];cases x
  ·simp
  ·simpa using u
def W4:∀{k:Nat} {t:TypeId} {ks:List Kd} {d:Nat},uQ P k t=some ks->k<=d->DJ P d t ks
 | 0,t,ks,d,h,_=>by simp[uQ] at h
 | k+1,t,ks,0,h,hd=>by omega
 | k+1,t,ks,d+1,h,hd=>by
  have T:=W3 h;have q:∀ t ks,uQ P k t=some ks->iv P t ks.length (fP P t)=true/\DJ P d t ks:=fun t ks h=>⟨W3 h,W4 h an⟩;simp only[uQ] at h;split at h
  case h_2=>cases h
  rename_i H e;split at h
  case isFalse=>cases h
  cases h;intro M w p I ds xs A b r s n;obtain⟨J,K⟩:=Kq n;have U:=ic r;have V:=ic s
  have o:∀{kd:Kd},ks=[kd]->∃ c d x y,I=[c]/\ds=[d]/\xs=[x]/\A=[y]/\aq M w c x/\aq M w d y/\qx kd c d=some b:=by
   intro kd L;subst L;obtain⟨c,rfl⟩:=abH.1 J;obtain⟨d',rfl⟩:=abH.1 K;simp only[ah] at r s;obtain⟨x,_,rfl,j,rfl⟩:=r;obtain⟨y,_,rfl,f,rfl⟩:=s;refine⟨c,d',x,y,rfl,rfl,rfl,rfl,j,f,?_⟩;simp only[cC] at n;split at n
   ·rename_i u v a D;simp only[aaa.injEq] at D n;subst D;rw[a,<-n,Bool.and_true]
   ·cases n
  split at e
  ·rename_i W a
   have l:fP P t=false:=by simp[fP,a,TypeDesc.isRow]
   simp only[aaa.injEq] at e;obtain⟨c,d',x,y,rfl,rfl,rfl,rfl,j,f,g⟩:=o e.symm;rw[l]
   cases c<;>cases d'<;>simp only[qx,reduceCtorEq] at g
   split at g
   ·rename_i N;subst N;simp only[aaa.injEq] at g;subst g;simp only[aq] at j f;subst j;subst f;exact run_equalIn_int p d t _ _ _ _ a
   ·cases g
  ·rename_i a
   have l:fP P t=false:=by simp[fP,a,TypeDesc.isRow]
   simp only[aaa.injEq] at e;obtain⟨c,d',x,y,rfl,rfl,rfl,rfl,j,f,g⟩:=o e.symm;rw[l]
   cases c<;>cases d'<;>simp only[qx,reduceCtorEq,aaa.injEq] at g
   subst g;simp only[aq] at j f;subst j;subst f;exact run_equalIn_bool p d t _ _ a
  ·rename_i a
   have l:fP P t=false:=by simp[fP,a,TypeDesc.isRow]
   simp only[aaa.injEq] at e;obtain⟨c,d',x,y,rfl,rfl,rfl,rfl,j,f,g⟩:=o e.symm;rw[l]
   cases c<;>cases d'<;>simp only[qx,reduceCtorEq,aaa.injEq] at g
   subst g;simp only[aq] at j f;subst j;subst f;show(Op.equalIn (d+1) t (.string _) (.string _)).run P p=_;rw[run_equalIn_string p d t _ _ a];simp
  ·rename_i O a
   have l:fP P t=true:=by simp[fP,a,TypeDesc.isRow]
   split at e
   case isFalse=>cases e
   rename_i B;rw[l]
   have E:P.fieldsOf t=O:=by simp[Program.fieldsOf,a]
   have:=run_equalIn_struct (P:=P) p d t xs.toArray A.toArray (by rw[E];exact a) B;simp only[oZ,if_true];rw[this,E];exact zpj q e r s (abF _) (abF _) (by simpa using n)
  ·rename_i m F a
   have l:fP P t=true:=by simp[fP,a,TypeDesc.isRow]
   split at e
   case h_2=>cases e
   rename_i Q R;simp only[aaa.injEq] at e;rw[l];obtain⟨G,C⟩:=q _ _ R;have z:=G;unfold iv at z;split at z
   case h_2=>cases z
   rename_i _ i X hi;simp only[aah,beq_iff_eq] at z
   have S:P.cellsOf F=Q.length:=by
    have:=run_sizeOf (P:=P) w hi
    have f:(sizeOf F).run P w=.ok i.size w:=by simp[sizeOf,typeInfo,hi]
    rw[f] at this;simp only[Result.ok.injEq,and_true] at this;rw[<-this];exact z.1
   have:=run_equalIn_array (P:=P) p d xs.toArray A.toArray a hi;simp only[oZ,if_true];rw[this,S,List.range_eq_range'];exact zqL G C r s ir ir (by rw[e];simpa using n)
  ·cases e
def zGC{c s:TypeId}{x y:Operand}{k l:X}{base:Nat}{neg:Bool}{ks:List Kd}(m:o.op=.binOp (if neg then .neq else .eql) c x y s)(t:aG M.fm x k=true)(u:aG M.fm y l=true)
  (z:uQ P 20 c=some ks) (p:P.eqGuardType P.depth c=false) (A:fP P c=true) (q:bj M w e a n) (B:aF M w H) (f:aV base e H (.Hv ks neg k l)=some (v,H1)):dh P o a M H w v H1:=by
 have i:=fL t q;have j:=fL u q;simp only[aV] at f;split at f
 case h_2=>cases f
 rename_i C ds D E;split at f
 case h_2=>cases f
 rename_i b F;cases f;rw[D] at i;rw[E] at j;simp only[aq] at i j;obtain⟨_,xs,r,G⟩:=i;obtain⟨_,I,g,J⟩:=j;have h:=W4 (P:=P) (d:=10000) z an M w w C ds xs I b G J F;rw[A] at h;simp only[oZ,if_true] at h;refine .plain (rv:=.bool (if neg then !b else b)) B ?_ (by simp only[aq]);cases neg
 ·simp only[execOp,m,r,g,Sem.run_bind,aaw,if_false,run_eqGuard_agg w _ c x y _ _ p,Result.andThen_ok,run_eql_struct,h];rfl
 ·simp only[execOp,m,r,g,Sem.run_bind,if_true,run_eqGuard_agg w _ c x y _ _ p,Result.andThen_ok,run_neq_struct,h];rfl
def W5(P:Program)(k:Nat)(t:TypeId)(y:Operand):Bool :=
 match k,P.underlying t,y with
 | 0,some (.func _ _ _),.const .nilFunc=>true
 | 1,some (.pointer _),.const (.pointer none)=>true
 | 2,some (.map _ _),.const (.map none)=>true
 | _,_,_=>false
def zz4(d:Nat){t:TypeId}{p q:Array TypeId}{r:Bool}(a:P.underlying t=some (.func p q r))(f:Fn)(g h:Array Value):(Op.equalIn (d+1) t (.func f g h) .nilFunc).run P w=.ok false w:=by simp[Op.equalIn,run_underlying a]
def zwm(d:Nat){t:TypeId}{p q:Array TypeId}{r:Bool}(a:P.underlying t=some (.func p q r)):(Op.equalIn (d+1) t .nilFunc .nilFunc).run P w=.ok true w:=by simp[Op.equalIn,run_underlying a]
def zwn(d:Nat){t p:TypeId}(a:P.underlying t=some (.pointer p)):(Op.equalIn (d+1) t (.pointer none) (.pointer none)).run P w=.ok true w:=by simp[Op.equalIn,run_underlying a]
def zqM(d:Nat){t p:TypeId}(a:P.underlying t=some (.pointer p))(b:Addr):(Op.equalIn (d+1) t (.pointer (some b)) (.pointer none)).run P w=.ok false w:=by simp[Op.equalIn,run_underlying a]
def zyt(d:Nat){t p q:TypeId}(a:P.underlying t=some (.map p q))(b:Nat):(Op.equalIn (d+1) t (.map (some b)) (.map none)).run P w=.ok false w:=by simp[Op.equalIn,run_underlying a]
def zwo(d:Nat){t p q:TypeId}(a:P.underlying t=some (.map p q)):(Op.equalIn (d+1) t (.map none) (.map none)).run P w=.ok true w:=by simp[Op.equalIn,run_underlying a]
def HR{c l:TypeId}{x y:Operand}{e f:Value}{b neg:Bool}(g:o.op=.binOp (if neg then .neq else .eql) c x y l)(h:a.eval x=e)(i:a.eval y=f)(m:aF M w H)
  (j:∀ op,(eqGuard op c x y e f).run P w=.ok () w) (n:binOp .eql c e f=(do pure (.bool (<-Op.equal c e f)))) (p:binOp .neq c e f=(do pure (.bool (!(<-Op.equal c e f)))))
  (q:∀ d,(Op.equalIn (d+1) c e f).run P w=.ok b w):dh P o a M H w (.bool (if neg then !b else b)) H:=by
 have k:(Op.equal c e f).run P w=.ok b w:=q 9999;refine .plain (rv:=.bool (if neg then !b else b)) m ?_ (by simp only[aq]);cases neg
 ·simp only[execOp,g,h,i,Sem.run_bind,aaw,if_false,j,Result.andThen_ok,n,k,Sem.run_pure]
 ·simp only[execOp,g,h,i,Sem.run_bind,if_true,j,Result.andThen_ok,p,k,Sem.run_pure]
def zCk{r s:TypeId}{x y:Operand}{m:X}{base k:Nat}{neg:Bool}(f:o.op=.binOp (if neg then .neq else .eql) r x y s)(t:aG M.fm x m=true)
  (p:W5 P k r y=true) (u:bj M w e a n) (g:aF M w H) (j:aV base e H (.pJ k neg m)=some (v,H1)):dh P o a M H w v H1:=by
 have c:=fL t u
 have l:neg=(if neg=true then !false else false):=by cases neg<;>rfl
 have q:(!neg)=(if neg=true then !true else true):=by cases neg<;>rfl
 unfold W5 at p;split at p
 case h_4=>cases p
 all_goals
  rename_i h;simp only[aV] at j
  cases z:m.ev e<;>rw[z] at j c<;>simp only[reduceCtorEq,aaa.injEq,abZ.injEq] at j
  all_goals
   obtain⟨rfl,rfl⟩:=j;simp only[aq] at c
 ·obtain⟨xs,i,_⟩:=c;rw[l];exact HR f i rfl g (fun op=>by unfold eqGuard;cases op<;>simp) rfl rfl (fun d=>zz4 d h _ _ _)
 ·rw[q];exact HR f c rfl g (fun op=>by unfold eqGuard;cases op<;>simp) rfl rfl (fun d=>zwm d h)
 ·rw[q];exact HR f c rfl g (fun op=>by unfold eqGuard;cases op<;>simp) rfl rfl (fun d=>zwn d h)
 ·obtain⟨_,i⟩:=c;rw[l];exact HR f i rfl g (fun op=>by unfold eqGuard;cases op<;>simp) rfl rfl (fun d=>zqM d h _)
 ·obtain⟨_,b,A,i,_⟩:=c;rw[l];exact HR f i rfl g (fun op=>by unfold eqGuard;cases op<;>simp) rfl rfl (fun d=>zqM d h _)
 ·obtain⟨_,i⟩:=c;rw[l];exact HR f i rfl g (fun op=>by unfold eqGuard;cases op<;>simp) rfl rfl (fun d=>zyt d h _)
 ·rw[q];exact HR f c rfl g (fun op=>by unfold eqGuard;cases op<;>simp) rfl rfl (fun d=>zwo d h)
def zw5{mx:Bool}{k:IntKind}:∀{xs:List X} {os:List Operand} {p:Int} {u:V},qb M.fm os xs=true->bj M w e a n->r8 e mx k p xs=some u ->
  ((os.map a.eval).foldlM (if mx then Builtin.max2 else Builtin.min2) (.int k p)).run P w=.ok (valOf u) w/\aq M w u (valOf u)
 | [],[],p,u,_,_,h=>by
  simp only[r8,aaa.injEq] at h;subst h
  exact⟨by simp[valOf],by simp only[aq,valOf]⟩
 | [],_::_,_,_,c,_,_=>by simp[qb] at c
 | _::_,[],_,_,c,_,_=>by simp[qb] at c
 | x::xs,o::os,p,u,c,g,h=>by
  simp only[qb,aah] at c;simp only[r8] at h;split at h
  case h_2=>cases h
  rename_i m b i;split at h
  case isFalse=>cases h
  rename_i j;subst j;have f:=fL c.1 g;rw[i] at f;simp only[aq] at f;obtain⟨d,l⟩:=zw5 c.2 g h;refine⟨?_,l⟩;rw[aaA,List.foldlM_cons,Sem.run_bind,f];cases mx
  ·simp only[aaw,if_false] at d |-;simp only[Builtin.min2,Sem.run_pure,Result.andThen_ok];simpa[My] using d
  ·simp only[if_true] at d |-;simp only[Builtin.max2,Sem.run_pure,Result.andThen_ok];simpa[My] using d
def zLq{mx:Bool}{args:Array Operand}{ts:Array TypeId}{xs:List X}{base:Nat}(d:o.op=.call { callee:=.builtin (if mx then .max else .min),args:=args,argTypes:=ts })(c:qb M.fm args.toList xs=true)
  (i:bj M w e a n) (l:aF M w H) (b:aV base e H (.mm mx xs)=some (v,H1)):dh P o a M H w v H1:=by
 simp only[aV] at b;split at b
 case h_2=>cases b
 rename_i x xs;split at b
 case h_2=>cases b
 rename_i k p m;rw[aaq] at b;obtain⟨u,q,b⟩:=b;cases b
 cases g:args.toList with
 | nil=>rw[g] at c;simp[qb] at c
 | cons t r =>
  rw[g] at c;simp only[qb,aah] at c;have h:=fL c.1 i;rw[m] at h;simp only[aq] at h;obtain⟨f,s⟩:=zw5 (P:=P) c.2 i q;refine .plain (rv:=valOf v) l ?_ s
  have j:List.map a.eval args.toList=.int k p::r.map a.eval:=by rw[g,aaA,h]
  cases mx
  ·simp only[aaw,if_false] at f d;simp[execOp,d,resolve,invoke,builtin,Builtin.min_,j,f]
  ·simp only[if_true] at f d;simp[execOp,d,resolve,invoke,builtin,Builtin.max_,j,f]
def zE2{t:TypeId}{x y:Operand}{g h:X}{base:Nat}(m:o.op=.index t x y)(p:aG M.fm x g=true)(q:aG M.fm y h=true)(r:P.underlying t=some .string)
  (j:bj M w e a n) (u:aF M w H) (c:aV base e H (.wT g h)=some (v,H1)):dh P o a M H w v H1:=by
 have d:=fL p j;have f:=fL q j;simp only[aV] at c;split at c
 case h_2=>cases c
 rename_i s k i z A;split at c
 case isFalse=>cases c
 rename_i D;split at c
 case h_2=>cases c
 rename_i b l;cases c;rw[z] at d;rw[A] at f;simp only[aq] at d f;refine .plain (rv:=.int .u8 b.toNat) u ?_ (by simp only[aq]);have B:i.toNat<s.length:=(aab.1 l).1
 have hi:0<=i/\i<(ByteArray.mk s.toArray).size:=by rw[zgx];omega
 have C:(ByteArray.mk s.toArray)[i.toNat]'(by rw[zgx];exact B)=b:=by have:=(aab.1 l).2;rw[<-this];rfl
 have:=run_index_string (P:=P) w t ⟨s.toArray⟩ k i r;rw[dif_pos hi,C] at this;simp[execOp,m,d,f,this]
def zE3{t:TypeId}{x:Operand}{d:X}{lo hi:Option Operand}{f g:Option X}{base:Nat}(k:o.op=.slice t x lo hi none)(p:aG M.fm x d=true)(q:P.underlying t=some .string)
  (r:oi M.fm lo f=true) (u:oi M.fm hi g=true) (i:bj M w e a n) (y:aF M w H) (b:aV base e H (.sslc d f g)=some (v,H1)):dh P o a M H w v H1:=by
 have c:=fL p i;simp only[aV] at b;split at b
 case h_2=>cases b
 rename_i s z;split at b
 case h_2=>cases b
 rename_i l h m A;cases b;rw[z] at c;simp only[aq] at c;refine .plain (rv:=.string ⟨((s.drop l).take (h-l)).toArray⟩) y ?_ (by simp only[aq]);have j:=Rz (P:=P) (w:=w) (isS:=false) (len:=s.length) (cap:=s.length) r u (mx:=none) (smx:=none) rfl i A (aae _);simp only[abD] at j
 have B:(ByteArray.mk s.toArray).extract l h=⟨((s.drop l).take (h-l)).toArray⟩:=by apply ByteArray.ext;simp[ByteArray.data_extract,abq]
 simp[execOp,k,c,Instr.sliceAt,Instr.slice,run_underlying q,zgx,j.2.2.2,B]
def my(P:Program)(t:TypeId):Ky->Bool
 | .sc .int=>match P.underlying t with|some (.int _)=>true|_=>false
 | .sc .bool=>match P.underlying t with|some .bool=>true|_=>false
 | .sc .str=>match P.underlying t with|some .string=>true|_=>false
 | .row a=>uQ P 20 t==some a&&fP P t
def Nq(P:Program)(d:Nat)(t:TypeId)(ks:List Kd):Prop :=
 ∀(em:Bool) (M:Mm) (w c:World) (a:List V) (xs:List Value) (b:Bool),ah M w a xs->cC ks a a=some b->(Instr.checkKey em d t (oZ (fP P t) xs)).run P c=.ok () c
def Nr:∀{k:Nat} {t:TypeId} {ks:List Kd} {d:Nat},uQ P k t=some ks->k<=d->Nq P d t ks
 | 0,t,ks,d,h,_=>by simp[uQ] at h
 | k+1,t,ks,0,h,hd=>by omega
 | k+1,t,ks,d+1,h,hd=>by
  have o:∀ t ks,uQ P k t=some ks->iv P t ks.length (fP P t)=true/\Nq P d t ks:=fun t ks h=>⟨W3 h,Nr h an⟩;simp only[uQ] at h;split at h
  case h_2=>cases h
  rename_i J c;split at h
  case isFalse=>cases h
  rename_i K;cases h;clear K;intro em M w n j xs b u l;have W:=ic u
  have e:(∃ r,P.underlying t=some (.int r))\/P.underlying t=some .bool\/P.underlying t=some .string->(Instr.checkKey em (d+1) t (oZ (fP P t) xs)).run P n=.ok () n:=by
   intro hu;unfold Instr.checkKey
   rcases hu with⟨r,hu⟩|hu|hu<;>simp[run_underlying hu]
  split at c
  ·rename_i r hu;exact e (.inl ⟨r,hu⟩)
  ·rename_i hu;exact e (.inr (.inl hu))
  ·rename_i hu;exact e (.inr (.inr hu))
  ·rename_i N hu
   have v:fP P t=true:=by simp[fP,hu,TypeDesc.isRow]
   split at c
   case isFalse=>cases c
   rw[v];simp only[oZ,if_true];rw[Instr.checkKey];simp only[Sem.run_bind,run_underlying hu,Result.andThen_ok];rw[<-Array.forIn_toList];obtain⟨off,g⟩:∃ off,off=0:=⟨0,rfl⟩
   replace l:cC ks (j.drop off) (j.drop off)=some b:=by rw[g];simpa using l
   have O:off<=xs.length:=an
   rw[<-g] at c;clear g;generalize N.toList=L at c
   induction L generalizing off ks b with
   | nil=>simp
   | cons f L z =>
    simp only[Kp] at c;split at c
    case isFalse=>cases c
    rename_i Q;obtain⟨R,g⟩:=Q;split at c
    case h_2=>cases c
    rename_i a A;split at c
    case h_2=>cases c
    rename_i rs S;cases c;obtain⟨s,B⟩:=o _ _ A;obtain⟨x,y,p,C,rfl⟩:=Nn l;obtain⟨D,_⟩:=Kq p;simp only[aad,aau] at D;have E:=Kr (P:=P) (w:=n) (off:=off) (xs:=xs) s an;have F:=B em M w n _ _ x (wm (x_ u off) a.length) p;simp only[acb,Sem.run_bind,R,g,ne_eq,not_false_eq_true,if_true,Result.andThen_ok,E,F,Sem.run_pure]
    have q1:cC rs (j.drop (off+a.length)) (j.drop (off+a.length))=some y:=by simpa[abk] using C
    have G:off+a.length<=xs.length:=an
    exact z (ks:=rs) (b:=y) (off:=off+a.length) q1 G S
  ·rename_i m T hu
   have v:fP P t=true:=by simp[fP,hu,TypeDesc.isRow]
   split at c
   case h_2=>cases c
   rename_i a A;simp only[aaa.injEq] at c;rw[v];obtain⟨s,B⟩:=o _ _ A;have q:=s;unfold iv at q;split at q
   case h_2=>cases q
   rename_i _ i X hi;simp only[aah,beq_iff_eq] at q
   have U:∀ H:World,(sizeOf T).run P H=.ok a.length H:=fun H=>by simp[sizeOf,typeInfo,hi,q.1]
   simp only[oZ,if_true];rw[Instr.checkKey];simp only[Sem.run_bind,run_underlying hu,Result.andThen_ok];simp only[Std.Legacy.Range.forIn_eq_forIn_range',Std.Legacy.Range.size,abU,Nat.add_one_sub_one,Nat.div_one];obtain⟨off,g⟩:∃ off,off=0:=⟨0,rfl⟩
   replace l:cC (aan m a).flatten (j.drop (off*a.length)) (j.drop (off*a.length))=some b:=by rw[c,g];simpa using l
   have O:off*a.length<=xs.length:=by rw[g];omega
   have I:ab3 0 m=ab3 off m:=by rw[g]
   rw[I];clear g I c hu
   induction m generalizing off b with
   | zero=>simp
   | succ m z =>
    rw[abi,aaD] at l;obtain⟨x,y,p,C,rfl⟩:=Nn l;obtain⟨D,_⟩:=Kq p;simp only[aad,aau] at D;have E:=Kr (P:=P) (w:=n) (off:=off*a.length) (xs:=xs) s an;have F:=B em M w n _ _ x (wm (x_ u _) a.length) p
    have V:(off+1)*a.length=off*a.length+a.length:=by rw[aaH,aa0]
    rw[ab6];simp only[acb,Sem.run_bind,U,Result.andThen_ok,E,F,Sem.run_pure]
    have q1:cC (aan m a).flatten (j.drop ((off+1)*a.length)) (j.drop ((off+1)*a.length))=some y:=by rw[V];simpa[abk] using C
    have G:(off+1)*a.length<=xs.length:=an
    exact z (b:=y) (off:=off+1) q1 G
  ·cases c
def W7{t:TypeId}{ky:Ky}(a:my P t ky=true):∃ d,P.underlying t=some d/\(ky.isRow=true->d.isRow=true):=by
 unfold my at a;split at a
 ·split at a
  ·exact⟨_,‹_›,fun h=>by cases h⟩
  ·cases a
 ·split at a
  ·exact⟨_,‹_›,fun h=>by cases h⟩
  ·cases a
 ·split at a
  ·exact⟨_,‹_›,fun h=>by cases h⟩
  ·cases a
 ·simp only[aah,beq_iff_eq] at a;have b:=a.2;unfold fP at b;split at b
  ·rename_i d hd;exact⟨d,hd,fun _=>b⟩
  ·cases b
def zuF{t:TypeId}{ks:List Kd}(a:my P t (.row ks)=true):uQ P 20 t=some ks/\fP P t=true:=by simpa[my] using a
def uR(M:Mm)(w:World)(es:List (V×V))(ents:List MapEntry)(i:Nat):Option (Nat×V)->Option (Nat×Value)->Prop
 | none,none=>True
 | some (j,u),some (b,x)=>j=b/\i<=j/\(∃ p a,es[j-i]?=some p/\ents[j-i]?=some a/\p.2=u/\a.val=x)/\aq M w u x
 | _,_=>False
def zw6{t:TypeId}{ky:Ky}{g:V}{s:Value}(e:my P t ky=true)(A:ky.isRow=false)(f:aq M w g s):∀{es:List (V×V)} {ents:List MapEntry} {i:Nat} {r:Option (Nat×V)},
  ah M w (es.map (·.1)) (ents.map (·.key))->ah M w (es.map (·.2)) (ents.map (·.val))->j6 ky g es i=some r ->
  ∃ d r',P.underlying t=some d/\Instr.findNow d s ents i=some r'/\uR M w es ents i r r'
 | [],ents,i,r,c,k,h=>by
  have n:=ic c;simp only[aaE,aaQ,aa9] at n;have:ents=[]:=aa2 n;subst this;simp only[j6,aaa.injEq] at h;subst h;obtain⟨d,hd,_⟩:=W7 e
  exact⟨d,none,hd,rfl,trivial⟩
 | p::es,[],i,r,c,k,h=>by
  have n:=ic c
  simp at n
 | p::es,v::ents,i,r,c,k,h=>by
  simp only[aaA,ah] at c k;obtain⟨x1,D,E,c,F⟩:=c;obtain⟨x2,G,H,k,I⟩:=k;cases E;cases H
  have B:∀ b,j7 ky g p.1=some b->∃ d,P.underlying t=some d/\Instr.sameNow d s v.key=some b:=by
   intro b a;unfold my at e;split at e
   ·split at e
    ·rename_i X l;refine⟨_,l,?_⟩;unfold j7 at a
     cases m:g<;>rw[m] at a f<;>cases hd:p.1<;>rw[hd] at a c<;>simp only[qx,reduceCtorEq] at a
     simp only[aq] at f c;rw[f,c];split at a
     ·rename_i J;simp only[Instr.sameNow,J,if_true];exact a
     ·cases a
    ·cases e
   ·split at e
    ·rename_i l;refine⟨_,l,?_⟩;unfold j7 at a
     cases m:g<;>rw[m] at a f<;>cases hd:p.1<;>rw[hd] at a c<;>simp only[qx,reduceCtorEq] at a
     simp only[aq] at f c;rw[f,c];simp only[Instr.sameNow];exact a
    ·cases e
   ·split at e
    ·rename_i l;refine⟨_,l,?_⟩;unfold j7 at a
     cases m:g<;>rw[m] at a f<;>cases hd:p.1<;>rw[hd] at a c<;>simp only[qx,reduceCtorEq] at a
     simp only[aq] at f c;rw[f,c];simp only[Instr.sameNow,beq_toListBytes,ByteArray.toList_mk];exact a
    ·cases e
   ·cases A
  simp only[j6] at h;split at h
  ·rename_i y;obtain⟨d,hd,z⟩:=B true y;simp only[aaa.injEq] at h;subst h;refine⟨d,some (i,v.val),hd,by simp only[Instr.findNow,z],rfl,aae _,⟨p,v,ir,ir,rfl,rfl⟩,k⟩
  ·rename_i y;obtain⟨d,hd,z⟩:=B false y;obtain⟨d',r',C,K,o⟩:=zw6 e A f F I h;rw[hd] at C;cases C;refine⟨d,r',hd,by simp only[Instr.findNow,z];exact K,?_⟩
   cases r with
   | none=>cases r'<;>simp only[uR] at o |-
   | some q =>
    obtain⟨j,u⟩:=q
    cases r' with
    | none=>simp only[uR] at o
    | some L =>
     obtain⟨Y,x⟩:=L;simp only[uR] at o |-;obtain⟨N,Z,⟨O,Q,R,S,T,U⟩,W⟩:=o;refine⟨N,an,⟨O,Q,?_,?_,T,U⟩,W⟩
     ·rw[show j-i=(j-(i+1))+1 by omega];simpa using R
     ·rw[show j-i=(j-(i+1))+1 by omega];simpa using S
  ·cases h
def RE{t:TypeId}{ky:Ky}{c:V}{f:Value}(a:my P t ky=true)(g:aq M w c f)(i:ky.isRow=true->∃ b,j7 ky c c=some b)(em:Bool)(w2:World):(Instr.checkKey em 10000 t f).run P w2=.ok () w2:=by
 cases ky with
 | sc kd =>
  unfold my at a;split at a
  case h_4=>rename_i e;cases e
  all_goals
   split at a
   ·rename_i j;unfold Instr.checkKey;simp[run_underlying j]
   ·cases a
 | row n =>
  obtain⟨k,l⟩:=zuF a;obtain⟨b,h⟩:=i rfl
  cases c<;>simp only[j7,reduceCtorEq] at h
  simp only[aq] at g;obtain⟨_,xs,rfl,m⟩:=g;have:=Nr (P:=P) (d:=10000) k an em M w w2 _ xs b m h;rw[l] at this;simpa only[oZ,if_true] using this
def zz5{t:TypeId}{ks:List Kd}{cs:List V}{g:Value}(s:uQ P 20 t=some ks)(v:fP P t=true)(k:aq M w (.agg cs) g):∀{es:List (V×V)} {ents:List MapEntry} {i:Nat} {r:Option (Nat×V)},
  ah M w (es.map (·.1)) (ents.map (·.key))->ah M w (es.map (·.2)) (ents.map (·.val))->j6 (.row ks) (.agg cs) es i=some r ->
  ∃ r',(∀ w2,(Instr.findAsking t g ents i).run P w2=.ok r' w2)/\uR M w es ents i r r'
 | [],ents,i,r,a,c,h=>by
  have e:=ic a;simp only[aaE,aaQ,aa9] at e;have:ents=[]:=aa2 e;subst this;simp only[j6,aaa.injEq] at h;subst h
  exact⟨none,fun w2=>by simp[Instr.findAsking],trivial⟩
 | p::es,[],i,r,a,c,h=>by
  have e:=ic a
  simp at e
 | p::es,l::ents,i,r,a,c,h=>by
  simp only[aaA,ah] at a c;obtain⟨x1,z,q1,a,A⟩:=a;obtain⟨x2,B,C,c,D⟩:=c;cases q1;cases C
  have y:∀ b,j7 (.row ks) (.agg cs) p.1=some b->∀ w2,(Op.equal t g l.key).run P w2=.ok b w2:=by
   intro b m w2
   cases E:p.1<;>rw[E] at m a<;>simp only[j7,reduceCtorEq] at m
   simp only[aq] at k a;obtain⟨_,xs,rfl,F⟩:=k;obtain⟨_,G,H,I⟩:=a;rw[H];have n:=W4 (P:=P) (d:=10000) s an M w w2 _ _ xs G b F I m;rw[v] at n;simp only[oZ,if_true] at n;exact n
  simp only[j6] at h;split at h
  ·rename_i o;simp only[aaa.injEq] at h;subst h;exact⟨some (i,l.val),fun w2=>by simp[Instr.findAsking,y true o w2],rfl,aae _,⟨p,l,ir,ir,rfl,rfl⟩,c⟩
  ·rename_i o;obtain⟨r',J,f⟩:=zz5 s v k A D h;refine⟨r',fun w2=>by simp[Instr.findAsking,y false o w2,J w2],?_⟩
   cases r with
   | none=>cases r'<;>simp only[uR] at f |-
   | some q =>
    obtain⟨j,u⟩:=q
    cases r' with
    | none=>simp only[uR] at f
    | some K =>
     obtain⟨W,x⟩:=K;simp only[uR] at f |-;obtain⟨L,X,⟨N,O,Q,R,S,T⟩,U⟩:=f;refine⟨L,an,⟨N,O,?_,?_,S,T⟩,U⟩
     ·rw[show j-i=(j-(i+1))+1 by omega];simpa using Q
     ·rw[show j-i=(j-(i+1))+1 by omega];simpa using R
  ·cases h
def zwp{d:TypeDesc}(h:d.isRow=true)(a b:Value):Instr.sameNow d a b=none:=by cases d<;>simp[TypeDesc.isRow] at h<;>rfl
def zpN{t:TypeId}{d:TypeDesc}{a:Value}{ents:List MapEntry}(hd:P.underlying t=some d)(h:Instr.findNow d a ents 0=none)(w2:World):(Instr.findKey t a ents).run P w2=(Instr.findAsking t a ents).run P w2:=by simp[Instr.findKey,run_underlying hd,h]
def Ks{t:TypeId}{ky:Ky}{c:V}{k:Value}{es:List (V×V)}{ents:List MapEntry}{r:Option (Nat×V)}(g:my P t ky=true)(m:aq M w c k)
  (p:ky.isRow=true->∃ b,j7 ky c c=some b) (n:ah M w (es.map (·.1)) (ents.map (·.key))) (o:ah M w (es.map (·.2)) (ents.map (·.val))) (h:j6 ky c es 0=some r) :
  ∃ r',(∀ w,(Instr.findKey t k ents).run P w=.ok r' w)/\uR M w es ents 0 r r':=by
 cases e:ky.isRow
 ·obtain⟨d,r',hd,f,i⟩:=zw6 g e m n o h;exact⟨r',fun w=>MapKept.run_findKey hd f,i⟩
 ·obtain⟨d,hd,q⟩:=W7 g;have s:=q e;obtain⟨b,u⟩:=p e
  cases ky with
  | sc kd=>cases e
  | row z =>
   obtain⟨v,x⟩:=zuF g
   cases c<;>simp only[j7,reduceCtorEq] at u
   obtain⟨r',f,i⟩:=zz5 v x m n o h;refine⟨r',fun j=>?_,i⟩
   cases ents with
   | nil =>
    have y:=f j;rw[MapKept.run_findKey (P:=P) (w:=j) (l:=[]) (a:=none) hd rfl]
    simpa[Instr.findAsking] using y
   | cons A ents =>
    rw[zpN hd (by simp only[Instr.findNow,zwp s])];exact f j
def mapOf?(P:Program)(t:TypeId):Option (TypeId×TypeId) :=
 match P.underlying t with
 | some (.map k a)=>some (k,a)
 | _=>none
def mapOf?_some{t k a:TypeId}(h:mapOf? P t=some (k,a)):P.underlying t=some (.map k a):=by
 unfold mapOf? at h;split at h
 ·rename_i b;cases h;exact b
 ·cases h
def zCl{t:TypeId}{base s:Nat}(c:o.op=.makeMap t none)(d:aF M w H)(b:aV base e H (.qV s)=some (v,H1)):dh P o a M H w v H1:=by
 simp only[aV] at b;split at b
 case isFalse=>cases b
 rename_i f;cases b
 obtain⟨st,g,r⟩:=M8 (ob:=.map #[] 0) (blk0:=.map []) d f rfl fun j k=>by
  simp only[aJ];refine⟨by simp[Mm.iV],#[],?_,by simp only[aaE,ah],by simp only[aaE,ah],fun i x h=>by simp at h⟩;simp only[Mm.iV,if_true];exact heap_alloc_new w _
 refine⟨.value (.map (some w.heap.size)),_,_,?_,?_,st,g,r⟩
 ·simp only[execOp,c,abD,Sem.run_bind,run_makeMap,Result.andThen_ok,Sem.run_pure]
 ·simp only[aq,Mm.iV,decide_true,aaM,if_true,true_and]
def Ku(P:Program)(t:TypeId)(z:V):Bool :=
 match P.info? t with
 | some i=>match i.zero with
  | some a=>tS a z
  | none=>false
 | none=>false
def zE4{t F s:TypeId}{x y:Operand}{R l:X}{base:Nat}{ky:Ky}{j:Bool}{z:V}(G:o.op=.lookup t x y j)(hx:aG M.fm x R=true)(hy:aG M.fm y l=true)
  (oj:mapOf? P t=some (F,s)) (r:my P F ky=true) (m:Ku P s z=true) (S:bj M w e a n) (A:aF M w H) (f:aV base e H (.tP ky j z R l)=some (v,H1)):dh P o a M H w v H1:=by
 have I:=mapOf?_some oj;have k:=fL hx S;have B:=fL hy S
 obtain⟨i,c,hi,J,W8⟩:∃ i c,P.info? s=some i/\i.zero=some c/\tS c z=true:=by
  unfold Ku at m;split at m
  ·rename_i i hi;split at m
   ·rename_i c J;exact⟨i,c,hi,J,m⟩
   ·cases m
  ·cases m
 have g:∀ w,(zeroValue s).run P w=.ok c w:=fun w=>by simp[zeroValue,typeInfo,hi,J]
 have C:aq M w z c:=Rp W8;simp only[aV] at f;split at f
 case isTrue=>cases f
 rename_i vw
 have D:ky.isRow=true->∃ b,j7 ky (l.ev e) (l.ev e)=some b:=fun h=>by
  cases hq:j7 ky (l.ev e) (l.ev e) with
  | none=>exact absurd ⟨h,hq⟩ vw
  | some b=>exact⟨b,rfl⟩
 split at f
 ·rename_i id K;split at f
  case h_2=>cases f
  rename_i es hb;rw[K] at k;simp only[aq] at k;have T:=A.rel id _ hb;simp only[aJ] at T;obtain⟨_,ents,hh,U,W,g9⟩:=T;have Y:=MapKept.run_getObj_map (P:=P) hh;have E:=fun em=>RE r B D em w;split at f
  ·rename_i q u L;obtain⟨N,O,p⟩:=Ks r B D U W L
   cases N with
   | none=>simp only[uR] at p
   | some Z =>
    obtain⟨j',Q⟩:=Z;simp only[uR] at p;cases f;refine .plain (rv:=if j then .tuple #[Q,.bool true] else Q) A ?_ ?_
    ·simp only[execOp,G,k.2,Instr.lookup,Sem.run_bind,run_underlying I,Result.andThen_ok,Y,Sem.run_pure,E,O]
    ·cases j
     ·simpa using p.2.2.2
     ·simp only[if_true,aq];exact⟨[Q,.bool true],rfl,by simp only[ah];exact⟨_,_,rfl,p.2.2.2,_,_,rfl,by simp only[aq],rfl⟩⟩
  ·rename_i L;obtain⟨N,O,p⟩:=Ks r B D U W L
   cases N with
   | some Z=>simp only[uR] at p
   | none =>
    cases f;refine .plain (rv:=if j then .tuple #[c,.bool false] else c) A ?_ ?_
    ·simp only[execOp,G,k.2,Instr.lookup,Sem.run_bind,run_underlying I,Result.andThen_ok,Y,Sem.run_pure,E,O,g]
    ·cases j
     ·simpa using C
     ·simp only[if_true,aq];exact⟨[c,.bool false],rfl,by simp only[ah];exact⟨_,_,rfl,C,_,_,rfl,by simp only[aq],rfl⟩⟩
  ·cases f
 ·rename_i K;cases f;rw[K] at k;simp only[aq] at k;have E:=fun em=>RE r B D em w
  have W9:∀ w,(Instr.findKey F (a.eval y) []).run P w=.ok none w:=fun w=>by
   obtain⟨d,hd,_⟩:=W7 r;exact MapKept.run_findKey hd rfl
  refine .plain (rv:=if j then .tuple #[c,.bool false] else c) A ?_ ?_
  ·simp only[execOp,G,k,Instr.lookup,Sem.run_bind,run_underlying I,Result.andThen_ok,Sem.run_pure,E,W9,g]
  ·cases j
   ·simpa using C
   ·simp only[if_true,aq];exact⟨[c,.bool false],rfl,by simp only[ah];exact⟨_,_,rfl,C,_,_,rfl,by simp only[aq],rfl⟩⟩
 ·cases f
def zuG{c d:V}{x e:Value}{k:Kd}(h:qx k c d=some true)(a:aq M w c x)(b:aq M w d e):Instr.sameBits 10000 e x=true:=by
 cases k<;>cases c<;>cases d<;>simp only[qx,reduceCtorEq,aaa.injEq] at h
 ·split at h
  ·rename_i f;subst f;simp at h;subst h;simp only[aq] at a b;subst a;subst b;simp[Instr.sameBits]
  ·cases h
 ·simp at h;subst h;simp only[aq] at a b;subst a;subst b;simp[Instr.sameBits]
 ·simp at h;subst h;simp only[aq] at a b;subst a;subst b;simp only[Instr.sameBits,beq_toListBytes,beq_self_eq_true]
def zwq{c d:V}{x e:Value}{k:Kd}(n:Nat)(h:qx k c d=some true)(a:aq M w c x)(b:aq M w d e):Instr.sameBits n e x=true:=by
 cases k<;>cases c<;>cases d<;>simp only[qx,reduceCtorEq,aaa.injEq] at h
 ·split at h
  ·rename_i f;subst f;simp at h;subst h;simp only[aq] at a b;subst a;subst b;simp[Instr.sameBits]
  ·cases h
 ·simp at h;subst h;simp only[aq] at a b;subst a;subst b;simp[Instr.sameBits]
 ·simp at h;subst h;simp only[aq] at a b;subst a;subst b;simp only[Instr.sameBits,beq_toListBytes,beq_self_eq_true]
def znL(n:Nat):∀{ks:List Kd} {cs ds:List V} {xs ys:List Value},cC ks cs ds=some true->ah M w cs xs->ah M w ds ys->ys.length=xs.length/\((ys.zip xs).all fun(p:Value×Value)=>Instr.sameBits n p.1 p.2)=true
 | [],[],[],xs,ys,_,a,b=>by
  simp only[ah] at a b;subst a;subst b
  exact⟨rfl,rfl⟩
 | [],[],_::_,_,_,h,_,_=>by simp[cC] at h
 | [],_::_,_,_,_,h,_,_=>by simp[cC] at h
 | _::_,[],_,_,_,h,_,_=>by simp[cC] at h
 | _::_,_::_,[],_,_,h,_,_=>by simp[cC] at h
 | k::ks,c::cs,d::ds,xs,ys,h,a,b=>by
  simp only[ah] at a b;obtain⟨x,o,rfl,e,a⟩:=a;obtain⟨y,f,rfl,g,b⟩:=b;simp only[cC] at h;split at h
  case h_2=>cases h
  rename_i u v i j;simp only[aaa.injEq,aah] at h;obtain⟨rfl,rfl⟩:=h;obtain⟨l,m⟩:=znL n j a b;exact⟨by simp[l],by simp only[List.zip_cons_cons,List.all_cons,aah];exact⟨zwq n i e g,m⟩⟩
def zpk{ky:Ky}{a b:V}{x e:Value}(h:j7 ky a b=some true)(c:aq M w a x)(d:aq M w b e):Instr.sameBits 10000 e x=true:=by
 cases ky with
 | sc kd=>exact zuG (k:=kd) h c d
 | row l =>
  cases a<;>cases b<;>simp only[j7,reduceCtorEq] at h
  simp only[aq] at c d;obtain⟨_,xs,rfl,f⟩:=c;obtain⟨_,m,rfl,g⟩:=d;obtain⟨i,j⟩:=znL 9999 h f g;rw[Instr.sameBits];simp only[abn,i,beq_self_eq_true,ace];exact j
def W_{ky:Ky}{a:V}:∀{es:List (V×V)} {i j:Nat} {u:V},j6 ky a es i=some (some (j,u))->i<=j/\∃ p,es[j-i]?=some p/\p.2=u/\j7 ky a p.1=some true
 | [],i,j,u,h=>by simp[j6] at h
 | p::es,i,j,u,h=>by
  simp only[j6] at h;split at h
  ·rename_i b;simp only[aaa.injEq,abZ.injEq] at h;obtain⟨rfl,rfl⟩:=h;exact⟨aae _,p,ir,rfl,b⟩
  ·obtain⟨e,q,c,d⟩:=W_ h;refine⟨an,q,?_,d⟩;rw[show j-i=(j-(i+1))+1 by omega];simpa using c
  ·cases h
def Ns{id:Nat}{es fs:List (V×V)}{ents:Array MapEntry}(b:aF M w H)(c:H[id]?=some (some (.map es)))
  (g:ah M w (fs.map (·.1)) (ents.toList.map (·.key))) (h:ah M w (fs.map (·.2)) (ents.toList.map (·.val))) (k:∀(i:Nat) (x:MapEntry),ents[i]?=some x->x.born=i) :
  eH M H w (M.cH (M.j id) 0) (H.set id (some (.map fs))) { w with heap:=w.heap.setIfInBounds (M.j id) (.map ents fs.length) }/\e_ M (M.cH (M.j id) 0) H.length /\
   aF (M.cH (M.j id) 0) { w with heap:=w.heap.setIfInBounds (M.j id) (.map ents fs.length) } (H.set id (some (.map fs))):=by
 have d:=b.rel id _ c;simp only[aJ] at d;obtain⟨l,n,m,_⟩:=d;have e:=MapKept.heap_set (o':=.map ents fs.length) m;refine Rm b c rfl rfl l 0 rfl rfl rfl ir e.2 fun a f=>?_;simp only[aJ];exact⟨by simp[Mm.cH],ents,e.1,ah.step a b f g,ah.step a b f h,k⟩
def Kv{cs:List V}{xs:List Value}(h:ah M w cs xs){i:Nat}{c:V}{x:Value}(g:aq M w c x):ah M w (cs.set i c) (xs.set i x):=by
 have b:=ic h;refine AI (by simp[b]) fun j d y hd a=>?_;rw[aaX] at hd a
 by_cases e:i=j
 ·subst e;simp only[if_true] at hd a;split at hd
  ·rename_i k;rw[if_pos (by rw[b];exact k)] at a;cases hd;cases a;exact g
  ·cases hd
 ·rw[if_neg e] at hd a;obtain⟨m,f,l⟩:=og h hd;rw[a] at f;cases f;exact l
def zw7{t W el:TypeId}{x y z:Operand}{Y g sz:X}{base:Nat}{ky:Ky}(B:o.op=.insert t x y z\/o.op=.mapUpdate t x y z)(d:aG M.fm x Y=true)(hy:aG M.fm y g=true)(hz:aG M.fm z sz=true)
  (oj:mapOf? P t=some (W,el)) (I:my P W ky=true) (J:bj M w e a n) (K:aF M w H) (f:aV base e H (.mput ky Y g sz)=some (v,H1)):dh P o a M H w v H1:=by
 have Z:=mapOf?_some oj;have C:=fL d J;have j:=fL hy J;have Kw:=fL hz J;simp only[aV] at f;split at f
 case h_2=>cases f
 rename_i id hp;split at f
 case isTrue=>cases f
 rename_i jF;split at f
 case h_2=>cases f
 rename_i D L;rw[hp] at C;simp only[aq] at C;have cS:=K.rel id _ L;simp only[aJ] at cS;obtain⟨_,ents,hh,l,E,N⟩:=cS
 have m:ents.size=D.length:=by have:=ic l;simpa using this
 have gQ:=MapKept.run_getObj_map (P:=P) hh
 have O:ky.isRow=true->∃ b,j7 ky (g.ev e) (g.ev e)=some b:=fun _=>by
  cases hq:j7 ky (g.ev e) (g.ev e) with
  | none=>exact absurd (.inl hq) jF
  | some b=>exact⟨b,rfl⟩
 have mM:=fun em=>RE I j O em w;have bY:=fun ob=>MapKept.run_setObj_map (P:=P) ob hh
 have q:∀ w',(Instr.mapUpdate t (a.eval x) (a.eval y) (a.eval z)).run P w=.ok () w'->(execOp a.eval o).run P w=.ok .skip w':=by
  intro w' h
  rcases B with B|B<;>simp only[execOp,B,Sem.run_bind,h,Result.andThen_ok,Sem.run_pure]
 split at f
 ·rename_i i u F;obtain⟨Q,R,s⟩:=Ks I j O l E F
  cases Q with
  | none=>simp only[uR] at s
  | some q' =>
   obtain⟨j',x'⟩:=q';simp only[uR] at s;obtain⟨rfl,_,⟨p,kN,tC,G,_,_⟩,_⟩:=s;obtain⟨_,p',S,_,HT⟩:=W_ F;rw[S] at tC;cases tC;simp only[abU] at S G;cases f
   have vz:aq M w p.1 kN.key:=by obtain⟨y2,h2,h3⟩:=og l (i:=i) (c:=p.1) (by rw[aav,S];rfl);rw[aav,G] at h2;cases h2;exact h3
   have Xa:=zpk HT j vz
   have T:ents[i]?=some kN:=by rw[<-aal];exact G
   have U:(ents.modify i fun en=>{ en with key:=a.eval y,val:=a.eval z }).toList=ents.toList.set i { kN with key:=a.eval y,val:=a.eval z }:=by
    apply ab1;intro k;rw[aal,aa5,aaX]
    by_cases A:i=k
    ·subst A;have ai:i<ents.toList.length:=(aab.1 G).1;rw[if_pos rfl,if_pos rfl,if_pos ai,T];rfl
    ·rw[if_neg A,if_neg A,aal]
   obtain⟨st,V,r⟩:=Ns (fs:=D.set i (g.ev e,sz.ev e)) (ents:=ents.modify i fun en=>{ en with key:=a.eval y,val:=a.eval z }) K L
    (by rw[U,aaF,aaF];exact Kv l j) (by rw[U,aaF,aaF];exact Kv E Kw)
    (fun k x d=>by
     rw[<-aal,U,aaX] at d;split at d
     ·rename_i A;subst A;split at d
      ·cases d;exact N _ kN T
      ·cases d
     ·rw[aal] at d;exact N k x d)
   refine⟨.skip,_,_,q _ ?_,rfl,st,V,r⟩;simp only[Instr.mapUpdate,C.2,Sem.run_bind,run_underlying Z,Result.andThen_ok,gQ,mM,R,Instr.keyThatStays,T,aaZ,ab7,Xa,if_true,Sem.run_pure,bY,abE]
 ·rename_i F;obtain⟨Q,R,s⟩:=Ks I j O l E F
  cases Q with
  | some q'=>simp only[uR] at s
  | none =>
   cases f
   obtain⟨st,V,r⟩:=Ns (fs:=D++[(g.ev e,sz.ev e)]) (ents:=ents.push { key:=a.eval y,val:=a.eval z,born:=D.length }) K L
    (by rw[aaU,abb,aaU];exact yZ l (by simp only[aaA,aaE,ah];exact⟨_,_,rfl,j,rfl⟩))
    (by rw[aaU,abb,aaU];exact yZ E (by simp only[aaA,aaE,ah];exact⟨_,_,rfl,Kw,rfl⟩))
    (fun k x d=>by
     rw[abP] at d;split at d
     ·rename_i DL;cases d;rw[<-m];exact DL.symm
     ·exact N k x d)
   refine⟨.skip,_,_,q _ ?_,rfl,st,V,r⟩;simp only[Instr.mapUpdate,C.2,Sem.run_bind,run_underlying Z,Result.andThen_ok,gQ,mM,R,bY,aax,aaY,aa9]
 ·cases f
def zGD{t:TypeId}{x:Operand}{d:X}{base s:Nat}(g:o.op=.range t x)(h:aG M.fm x d=true)(i:P.underlying t=some .string)(j:bj M w e a n)(k:aF M w H)
  (b:aV base e H (.Fv s d)=some (v,H1)):dh P o a M H w v H1:=by
 have c:=fL h j;simp only[aV] at b;split at b
 case h_2=>cases b
 rename_i f l;split at b
 case isFalse=>cases b
 rename_i m;cases b;rw[l] at c;simp only[aq] at c
 obtain⟨st,p,r⟩:=M8 (ob:=.stringIter ⟨f.toArray⟩ 0) (blk0:=.dE f 0) k m rfl fun q u=>by
  simp only[aJ];refine⟨by simp[Mm.iV],?_⟩;simp only[Mm.iV,if_true];exact heap_alloc_new w _
 refine⟨.value (.pointer (some ⟨w.heap.size,0,none⟩)),_,_,?_,?_,st,p,r⟩
 ·simp[execOp,g,c,Instr.range,run_underlying i]
 ·simp only[aq,Mm.iV,decide_true,aaM,if_true,true_and]
def zGE{x:Operand}{k:X}{base:Nat}(l:o.op=.next x true)(s:aG M.fm x k=true)(t:bj M w e a n)(f:aF M w H)
  (c:aV base e H (.x9 k)=some (v,H1)):dh P o a M H w v H1:=by
 have d:=fL s t;simp only[aV] at c;split at c
 case h_2=>cases c
 rename_i id u;split at c
 case h_2=>cases c
 rename_i b pos m;rw[u] at d;simp only[aq] at d;have p:=f.rel id _ m;simp only[aJ] at p;obtain⟨y,g⟩:=p;split at c
 ·rename_i h;cases c;have i:=Lib.run_next_any_at (P:=P) w (M.j id) ⟨b.toArray⟩ pos o.type g (by rw[zgx];exact h);have q:=MapKept.heap_set (o':=.stringIter ⟨b.toArray⟩ (pos+(Utf8.decode ⟨b.toArray⟩ pos).2)) g
  obtain⟨st,z,r⟩:=Rm (blk1:=.dE b (pos+(Utf8.decode ⟨b.toArray⟩ pos).2)) (w':=w.iterAt (M.j id) ⟨b.toArray⟩ (pos+(Utf8.decode ⟨b.toArray⟩ pos).2)) f m rfl rfl y 0 rfl rfl rfl (by simp[World.iterAt]) q.2 fun A B=>by
   simp only[aJ];exact⟨by simp[Mm.cH],q.1⟩
  refine⟨.value (.tuple #[.bool true,.int .i64 pos,.int .i32 (Utf8.decode ⟨b.toArray⟩ pos).1]),_,_,?_,?_,st,z,r⟩
  ·simp only[execOp,l,d.2,Sem.run_bind,i,Result.andThen_ok,Sem.run_pure]
  ·simp only[aq];exact⟨[.bool true,.int .i64 pos,.int .i32 (Utf8.decode ⟨b.toArray⟩ pos).1],rfl,by simp[ah,aq]⟩
 ·rename_i h;cases c;have i:=Lib.run_next_end_at (P:=P) w (M.j id) ⟨b.toArray⟩ pos o.type g (by rw[zgx];exact h);refine .plain (rv:=.tuple #[.bool false]) f ?_ ?_
  ·simp only[execOp,l,d.2,Sem.run_bind,i,Result.andThen_ok,Sem.run_pure]
  ·simp only[aq];exact⟨[.bool false],rfl,by simp[ah,aq]⟩
def zpl{ents:Array MapEntry}{i:Nat}{f:MapEntry->MapEntry}{a:MapEntry}(h:ents[i]?=some a):(ents.modify i f).toList=ents.toList.set i (f a):=by
 have c:ents.toList[i]?=some a:=by rw[aal];exact h
 apply ab1;intro k;rw[aal,aa5,aaX]
 by_cases b:i=k
 ·subst b;have d:i<ents.toList.length:=(aab.1 c).1;rw[if_pos rfl,if_pos rfl,if_pos d,h];rfl
 ·rw[if_neg b,if_neg b,aal]
def zuH{ents:Array MapEntry}{i:Nat}{b c:MapEntry}{d:Array MapEntry}(f:d.toList=ents.toList.set i c)(g:ents[i]?=some b)(h:c.born=b.born)(e:∀(i:Nat) (x:MapEntry),ents[i]?=some x->x.born=i) :
  ∀(k:Nat) (x:MapEntry),d[k]?=some x->x.born=k:=fun k x a=>by
 rw[<-aal,f,aaX] at a;split at a
 ·rename_i j;subst j;split at a
  ·cases a;rw[h];exact e _ b g
  ·cases a
 ·rw[aal] at a;exact e k x a
def zE5{t kt K:TypeId}{x y:Operand}{sx j:X}{base:Nat}{ky:Ky}{z:V}(ho:o.op=.mapEntry t x y)(m:aG M.fm x sx=true)(hy:aG M.fm y j=true)
  (oj:mapOf? P t=some (kt,K)) (S:my P kt ky=true) (q:Ku P K z=true) (ht:bj M w e a n) (C:aF M w H) (d:aV base e H (.vj ky z sx j)=some (v,H1)):dh P o a M H w v H1:=by
 have hu:=mapOf?_some oj;have L:=fL m ht;have s:=fL hy ht
 obtain⟨i,g,hi,T,W8⟩:∃ i g,P.info? K=some i/\i.zero=some g/\tS g z=true:=by
  unfold Ku at q;split at q
  ·rename_i i hi;split at q
   ·rename_i g T;exact⟨i,g,hi,T,q⟩
   ·cases q
  ·cases q
 have l:∀ w,(zeroValue K).run P w=.ok g w:=fun w=>by simp[zeroValue,typeInfo,hi,T]
 have DK:aq M w z g:=Rp W8;simp only[aV] at d;split at d
 case h_2=>cases d
 rename_i id hp;split at d
 case isTrue=>cases d
 rename_i jF;split at d
 case h_2=>cases d
 rename_i A U;rw[hp] at L;simp only[aq] at L;have cS:=C.rel id _ U;simp only[aJ] at cS;obtain⟨_,ents,hh,B,D,W⟩:=cS
 have E:ents.size=A.length:=by have:=ic B;simpa using this
 have gQ:=MapKept.run_getObj_map (P:=P) hh
 have Y:ky.isRow=true->∃ b,j7 ky (j.ev e) (j.ev e)=some b:=fun _=>by
  cases hq:j7 ky (j.ev e) (j.ev e) with
  | none=>exact absurd hq jF
  | some b=>exact⟨b,rfl⟩
 have mM:=fun em=>RE S s Y em w;have bY:=fun ob=>MapKept.run_setObj_map (P:=P) ob hh
 have F:∀ r w',(Instr.mapEntry t (a.eval x) (a.eval y)).run P w=.ok r w'->(execOp a.eval o).run P w=.ok (.value r) w':=by intro r w' h;simp only[execOp,ho,Sem.run_bind,h,Result.andThen_ok,Sem.run_pure]
 split at d
 ·rename_i i u N;obtain⟨Z,lf,G⟩:=Ks S s Y B D N
  cases Z with
  | none=>simp only[uR] at G
  | some q' =>
   obtain⟨j',x'⟩:=q';simp only[uR] at G;obtain⟨rfl,_,⟨p,kN,tC,O,_,_⟩,ha⟩:=G;obtain⟨_,p',Q,l_,HT⟩:=W_ N;rw[Q] at tC;cases tC;simp only[abU] at Q O;cases d
   have vz:aq M w p.1 kN.key:=by obtain⟨y2,I,h3⟩:=og B (i:=i) (c:=p.1) (by rw[aav,Q];rfl);rw[aav,O] at I;cases I;exact h3
   have Nt:aq M w p.2 kN.val:=by obtain⟨y2,I,h3⟩:=og D (i:=i) (c:=p.2) (by rw[aav,Q];rfl);rw[aav,O] at I;cases I;exact h3
   have Xa:=zpk HT s vz
   have R:ents[i]?=some kN:=by rw[<-aal];exact O
   have re:=zpl (f:=fun en=>{ en with key:=a.eval y }) R
   have hc:(ents.toList.set i { kN with key:=a.eval y }).map (·.val)=(ents.toList.map (·.val)).set i kN.val:=by rw[aaF]
   obtain⟨st,J,r⟩:=Ns (fs:=A.set i (j.ev e,u)) (ents:=ents.modify i fun en=>{ en with key:=a.eval y }) C U
    (by rw[re,aaF,aaF];exact Kv B s) (by rw[re,hc,aaF,<-l_];exact Kv D Nt)
    (zuH re R rfl W)
   have RF:=W i kN R;refine⟨.value (.tuple #[x',.int .i64 (i:Int)]),_,_,F _ _ ?_,?_,st,J,r⟩
   ·simp only[Instr.mapEntry,L.2,Sem.run_bind,run_underlying hu,Result.andThen_ok,gQ,mM,lf,Instr.keyThatStays,R,aaZ,ab7,Xa,if_true,Sem.run_pure,bY,abE,RF,goInt]
   ·simp only[aq];refine⟨[x',.int .i64 (i:Int)],rfl,?_⟩;simp only[ah];exact⟨_,_,rfl,aq.step st C J ha,_,_,rfl,by simp only[aq],rfl⟩
 ·rename_i N;obtain⟨Z,lf,G⟩:=Ks S s Y B D N
  cases Z with
  | some q'=>simp only[uR] at G
  | none =>
   cases d
   obtain⟨st,J,r⟩:=Ns (fs:=A++[(j.ev e,z)]) (ents:=ents.push { key:=a.eval y,val:=g,born:=A.length }) C U
    (by rw[aaU,abb,aaU];exact yZ B (by simp only[aaA,aaE,ah];exact⟨_,_,rfl,s,rfl⟩))
    (by rw[aaU,abb,aaU];exact yZ D (by simp only[aaA,aaE,ah];exact⟨_,_,rfl,DK,rfl⟩))
    (fun k x m=>by
     rw[abP] at m;split at m
     ·rename_i DL;cases m;rw[<-E];exact DL.symm
     ·exact W k x m)
   refine⟨.value (.tuple #[g,.int .i64 (A.length:Int)]),_,_,F _ _ ?_,?_,st,J,r⟩
   ·simp only[Instr.mapEntry,L.2,Sem.run_bind,run_underlying hu,Result.andThen_ok,gQ,mM,lf,l,bY,aax,aaY,aa9,Sem.run_pure,goInt]
   ·simp only[aq];refine⟨[g,.int .i64 (A.length:Int)],rfl,?_⟩;simp only[ah];exact⟨_,_,rfl,aq.step st C J DK,_,_,rfl,by simp only[aq],rfl⟩
 ·cases d
def zuI{ents:Array MapEntry}{i:Nat}(hi:i<ents.size)(a:∀(i:Nat) (x:MapEntry),ents[i]?=some x->x.born=i):ents.findIdx? (fun b=>(b.born:Int)==(i:Int))=some i:=by rw[Array.findIdx?_eq_some_iff_getElem];refine⟨hi,by simp[a i _ (aaK hi)],fun j c=>?_⟩;have:=a j _ (aaK (show j<ents.size by omega));simp[this];omega
def zGF{t:TypeId}{x y z:Operand}{A B sz:X}{base:Nat}(L:o.op=.entryStore t x y z)(N:aG M.fm x A=true)(O:aG M.fm y B=true)(Q:aG M.fm z sz=true)
  (g:bj M w e a n) (C:aF M w H) (b:aV base e H (.Fu A B sz)=some (v,H1)):dh P o a M H w v H1:=by
 have h:=fL N g;have j:=fL O g;have R:=fL Q g;simp only[aV] at b;split at b
 case h_2=>cases b
 rename_i id k i S T;split at b
 case h_2=>cases b
 rename_i D E;split at b
 case isFalse=>cases b
 rename_i U;split at b
 case h_2=>cases b
 rename_i p l;cases b;obtain⟨i,rfl⟩:=Int.eq_ofNat_of_zero_le U;simp only[Int.toNat_natCast] at l |-;rw[S] at h;rw[T] at j;simp only[aq] at h j;have F:=C.rel id _ E;simp only[aJ] at F;obtain⟨_,ents,G,m,V,I⟩:=F
 have d:ents.size=D.length:=by have:=ic m;simpa using this
 have J:i<ents.size:=by rw[d];exact(aab.1 l).1
 obtain⟨kN,q⟩:∃ kN,ents[i]?=some kN:=⟨_,aaK J⟩
 have W:ents.toList[i]?=some kN:=by rw[aal];exact q
 have Y:=MapKept.run_getObj_map (P:=P) G;have Z:=fun ob=>MapKept.run_setObj_map (P:=P) ob G
 have vz:aq M w p.1 kN.key:=by obtain⟨y2,K,h3⟩:=og m (i:=i) (c:=p.1) (by rw[aav,l];rfl);rw[aav,W] at K;cases K;exact h3
 have s:=zpl (f:=fun en=>{ en with val:=a.eval z }) q
 have u:(ents.toList.set i { kN with val:=a.eval z }).map (·.key)=(ents.toList.map (·.key)).set i kN.key:=by rw[aaF]
 obtain⟨st,ii,r⟩:=Ns (fs:=D.set i (p.1,sz.ev e)) (ents:=ents.modify i fun en=>{ en with val:=a.eval z }) C E
  (by rw[s,u,aaF];exact Kv m vz) (by rw[s,aaF,aaF];exact Kv V R)
  (zuH s q rfl I)
 refine⟨.skip,_,_,?_,rfl,st,ii,r⟩;have hf:=zuI J I;simp only[execOp,L,Instr.entryStore,h.2,j,Sem.run_bind,Y,Result.andThen_ok,asInt,asIntOf,Sem.run_pure,hf,Z,abE]
def aq.jq{c:V}{x:Value}(h:aq M w c x):aq M w c.jq x:=by
 cases c<;>first|exact h|skip
 simp only[V.jq,aq] at h |-;obtain⟨p,a,b,d,e,f,_⟩:=h;exact⟨p,a,b,d,e,f,trivial⟩
def ah.tW{g:V->V}(a:∀{c:V} {x:Value},aq M w c x->aq M w (g c) x):∀{cs:List V} {xs:List Value},ah M w cs xs->ah M w (cs.map g) xs
 | [],_,h=>by simpa only[ah,aaE] using h
 | c::cs,_,h=>by
  simp only[ah,aaA] at h |-;obtain⟨x,b,rfl,d,e⟩:=h;exact⟨x,b,rfl,a d,ah.tW a e⟩
def V.A8(c:V):c.jq.fC=c.fC:=by cases c<;>rfl
def aq.Fx{c:V}{x:Value}(h:aq M w c x):aq M w c.Fx x:=by
 cases c<;>first|exact h|exact aq.jq h|skip
 simp only[V.Fx,aq] at h |-;obtain⟨p,xs,a,b⟩:=h;refine⟨?_,xs,a,ah.tW aq.jq b⟩;intro c e;obtain⟨d,hd,rfl⟩:=aa3.1 e;rw[V.A8];exact p d hd
end Go.Ev
