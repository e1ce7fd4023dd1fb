/- Canonical values of a simplified reading of Go functions, and how they lie in the model's memory. -/
import Derived.WalkKit
import Derived.Orders
import Derived.Deep.MidRow
import Derived.Deep.AppendSrc
import Derived.Deep.Upon
import Derived.Laws.Strings
import Derived.Laws.Concat
set_option linter.defProp false
set_option linter.unusedSimpArgs false
set_option linter.unusedVariables false
open Option renaming some->aab,map_eq_some_iff->aaj,isSome_iff_exists->aaA,map_some->aa4,map->abF
open List renaming getElem?_eq_some_iff->aad,length_take->aae,mem_of_mem_take->aag,getElem?_set_self->aah,mem_of_mem_drop->aai,replicate->aal,eq_of_mem_replicate->aan,getElem?_take->aap,length_append->aaq,length_drop->aar,getElem?_append_left->aay,flatten_cons->aaF,getElem?_append_right->aaH,flatten_nil->aaJ,length_map->aaK,getElem?_map->aaL,take_append_drop->aaM,mem_flatten->aaO,flatten_append->aaP,mem_append->aaQ,getElem?_drop->aaV,mem_map->aaW,map_cons->aa0,length_replicate->aa3,append_assoc->abb,mem_or_eq_of_mem_set->abc,length_cons->abe,map_map->abg,getElem?_eq_getElem->abh,getElem_mem->abi,all_eq_true->abm,getElem?_replicate->abn,take_of_length_le->abp,getElem?_eq_none->abq,getElem?_toArray->abr,getElem?_of_mem->abv,getElem?_range->abw,map_nil->abx,size_toArray->abC,mem_cons->abK
open Nat renaming le_refl->aaf,lt_of_lt_of_le->aau,mul_le_mul_right->aaC,add_mul->aaG,le_trans->aaR,one_mul->aaZ,add_zero->aa9,min_eq_left->aa_,zero_add->abl,le_mul_of_pos_right->abo,mul_div_cancel->abA,zero_le->abT,mul_one->abU,mod_lt->abX
open Bool renaming and_eq_true->aam,false_eq_true->aas,true_or->aaI,not_eq_true'->abB,or_eq_true->abI,false_or->abJ,or_true->abL
open Array renaming getElem?_eq_some_iff->aao,length_toList->aat,all_eq_true_iff_forall_mem->aa1,getElem?_toList->aa2,range->aba,getElem?_eq_getElem->abd,getElem?_modify->abt,toList_range->aby,toList_map->abE,ext'->abG
open BitVec renaming ofInt->aaz
open Prod renaming mk->abV
namespace Go.Ev
theorem ax{α:Sort _}(a:α):∃x,x=a:=⟨a,rfl⟩
theorem af8{p:Prop}(h:p:=by omega):p=True:=eq_true h
theorem af9{p:Prop}(h:¬p:=by omega):p=False:=eq_false h
theorem aga{p:Prop}(h:p:=by decide):p:=h
def an{p:Prop}(h:p:=by omega):p:=h
def ir{p:Prop}(h:p:=by simp):p:=h
open Go Go.RowKit
inductive Tk where
 | no|full|own (q:Nat)
 deriving DecidableEq
inductive V where
 | undef
 | lW
 | any
 | int (k:IntKind) (n:Int)
 | bool (b:Bool)
 | str (s:List UInt8)
 | nilp
 | ptr (id off:Nat)
 | cptr (cs:List V)
 | vs (es:List (List V)) (tk:Tk)
 | rs (id off n sz:Nat)
 | fn (f:Nat) (cap:List V)
 | nilf
 | agg (cs:List V)
 | bf (cs:List V)
 | mp (id:Nat)
 | nilm
 | yld (id:Nat)
 | gs (id n:Nat)
inductive X where
 | t (i:Nat)
 | c (v:V)
inductive Kd where
 | int|bool|str
 deriving DecidableEq
inductive Ky where
 | sc (k:Kd)
 | row (ks:List Kd)
@[simp] def Ky.isRow:Ky->Bool
 | .sc _=>false
 | .row _=>true
inductive dO where
 | mv (x:X)
 | pick (c a b:X)
 | box (s:Nat) (x:X)
 | alloc (s:Nat) (z:List V)
 | build (z:List V) (ps:List (Nat×Nat×X))
 | bslice (n:Nat) (z:List V) (ps:List (Nat×X))
 | load (sz:Nat) (ag old:Bool) (x:X)
 | store (sz:Nat) (a x:X)
 | pz (off:Nat) (x:X)
 | Ho (off sz:Nat) (ag:Bool) (x:X)
 | qN (sz:Nat) (x i:X)
 | mQ (len sz:Nat) (x i:X)
 | idx (len sz:Nat) (ag:Bool) (x i:X)
 | bin (op:BinOp) (x y:X)
 | beq (neg:Bool) (x y:X)
 | un (op:UnOp) (x:X)
 | conv (k:IntKind) (x:X)
 | mkfn (f:Nat) (cap:List X)
 | ext (i:Nat) (x:X)
 | len (st:Bool) (x:X)
 | app (s sz bytes:Nat) (x y:X)
 | slc (sz:Nat) (x:X) (lo hi mx:Option X)
 | qO (x:X)
 | pY (s bytes:Nat) (z:List V) (n:X)
 | Hp (ks:List Kd) (neg:Bool) (x y:X)
 | pB (k:Nat) (neg:Bool) (x:X)
 | mm (mx:Bool) (xs:List X)
 | wW (x i:X)
 | sslc (x:X) (lo hi:Option X)
 | Hq (x:X)
 | Hr (x:X)
 | qP (s:Nat)
 | tD (ks:Ky) (ok:Bool) (z:V) (x k:X)
 | mput (ks:Ky) (x k v:X)
 | va (ks:Ky) (z:V) (x k:X)
 | E8 (x i v:X)
 | E9 (s:Nat) (x:X)
 | x6 (x:X)
 | wX (len sz:Nat) (x:X) (lo hi:Option X)
 | E_ (sz:Nat) (x y:X)
 | loadR (sz:Nat) (ag:Bool) (r:Nat) (x:X)
 | storeA (sz:Nat) (rs:List Nat) (a x:X)
 | bsliceR (s n:Nat) (z:List V) (ps:List (Nat×X))
 | sJ (sz:Nat) (ag:Bool) (x:X)
 | jP (s sz:Nat) (a x:X)
 | kcall (ro:Bool) (f:Nat) (xs:List X)
 | pcall (f:Nat) (xs:List X)
 | scall (f:Nat) (xs:List X)
 | vcall (ro:Bool) (f:X) (xs:List X)
 | scallA (rs:List Nat) (f:Nat) (xs:List X)
 | scallE (f:Nat) (xs:List X)
 | jD (s n:Nat) (z:List V) (ps:List (Nat×X))
 | mark (x:X)
 | loadA (sz:Nat) (ag:Bool) (rs:List Nat) (x:X)
 | storeT (sz r:Nat) (a x:X)
structure aF where
 dst:Option Nat
 op:dO
 guard:Option (Nat×Bool)
inductive ba where
 | skip
 | region (m:Nat) (ops:List aF)
 | seq (a b:ba)
 | cond (c:X) (a b:ba)
 | block (id:Nat) (c:ba)
 | loop (l:List Nat) (c:ba)
 | exit (id:Nat)
 | ret
 | keep (l:List Nat)
 | give (t:Nat) (off:Option Nat)
 | freeze (t:Nat)
 | g9 (g:X) (l ps:List Nat) (as bo:ba)
 | nat (k:Nat)
inductive Ex where
 | nx|exit (id:Nat)|ret
 deriving DecidableEq
inductive jj where
 | tmp (t:Nat)
 | cell (t sz:Nat) (ag:Bool)
inductive B5 where
 | ready
 | busy
 | done (x:Ex)
 | over
def V.fg:V->Bool
 | .undef|.lW|.agg _|.bf _=>false
 | _=>true
def V.pure:V->Bool
 | .int _ _|.bool _|.str _|.nilp|.cptr _|.nilf|.nilm=>true
 | .vs _ (.own _)=>false
 | .vs _ _=>true
 | .fn _ []=>true
 | _=>false
def V.bZ{c:V}(h:c.pure=true):c.fg=true:=by cases c<;>simp_all [V.pure,V.fg]
structure Z where
 n:Nat
 cE:Option Nat
 cap:Nat
 sz:Nat
structure Fm where
 fn:Nat->FuncId
 gl:Nat->Option (List V)
 ur:Nat->ba->Code->Prop
instance:CoeFun Fm λ_=>Nat->FuncId:=⟨Fm.fn⟩
structure Mm where
 al:Nat->Bool
 j:Nat->Nat
 gh:Nat->Option Nat
 z:Nat->Z
 fm:Fm
def Rd(M:Mm)(b o:Nat):Prop:=∀l,M.gh b=some l->o<l
def lY(M:Mm)(es:List (List V))(a:Option Addr)(cap:Nat):Tk->Prop
 | .no=>True
 | .full=>cap=es.length
 | .own q=>M.al q=true/\es.length<=(M.z q).n/\(es.length=(M.z q).n->cap=(M.z q).cap /\
   match(M.z q).cE with
   | none=>cap=es.length
   | some b=>a=some ⟨b,0,none⟩/\∀e∈es,e.length=(M.z q).sz)
mutual
def aq(M:Mm)(w:World):V->Value->Prop
 | .undef,_=>True
 | .lW,v=>v=undef
 | .any,v=>v.oneCell'=true
 | .int k n,v=>v=.int k n
 | .bool b,v=>v=.bool b
 | .str s,v=>v=.string ⟨s.toArray⟩
 | .nilp,v=>v=.pointer none
 | .ptr id h,v=>M.al id=true/\v=.pointer (some ⟨M.j id,h,none⟩)
 | .cptr i,v=>(∀c∈i,c.pure=true)/\∃b o,v=.pointer (some ⟨b,o,none⟩)/\fj M w b i o
 | .vs g tk,v=>(∀e∈g,∀c∈e,c.pure=true)/\∃a d,v=.slice a g.length d/\g.length<=d /\
   (match a with
    | none=>g=[]/\d=0
    | some l=>(g=[]\/l.spot=none)/\(∃m,∀e∈g,e.length=m)/\fV M w l.block g l.off)/\lY M g a d tk
 | .rs id h n _,v=>M.al id=true/\∃d,v=.slice (some ⟨M.j id,h,none⟩) n d/\n<=d
 | .fn f d,v=>∃xs:List Value,v=.func (.func (M.fm f)) #[] xs.toArray/\ai M w d xs
 | .nilf,v=>v=.nilFunc
 | .agg i,v=>(∀c∈i,c.fg=true)/\∃xs:List Value,v=.agg xs.toArray/\ai M w i xs
 | .bf i,v=>∃xs:List Value,v=.tuple xs.toArray/\ai M w i xs
 | .mp id,v=>M.al id=true/\v=.map (some (M.j id))
 | .nilm,v=>v=.map none
 | .yld id,v=>M.al id=true/\v=.func (.yield (M.j id)) #[] #[]
 | .gs id n,v=>M.al id=true/\∃d,v=.slice (some ⟨M.j id,0,none⟩) n d/\n<=d/\((M.z id).n=0->d=(M.z id).cap)
def ai(M:Mm)(w:World):List V->List Value->Prop
 | [],xs=>xs=[]
 | c::b,xs=>∃x a,xs=x::a/\aq M w c x/\ai M w b a
def fj(M:Mm)(w:World)(b:Nat):List V->Nat->Prop
 | [],_=>True
 | c::a,o=>(∃x,w.cell? ⟨b,o,none⟩=some x/\Rd M b o/\aq M w c x)/\fj M w b a (o+1)
def fV(M:Mm)(w:World)(b:Nat):List (List V)->Nat->Prop
 | [],_=>True
 | e::a,o=>fj M w b e o/\fV M w b a (o+e.length)
end
inductive az where
 | cells (cs:List V)
 | zone (n:Nat)
 | jo (cs:List V)
 | map (es:List (V×V))
 | dF (s:List UInt8) (pos:Nat)
 | loop (e0:List (Nat×V)) (ps:List Nat) (as bo:ba) (st:B5)
 | grow (cs:List V) (sz:Nat) (fu:Bool)
abbrev ae:=List (Option az)
def aV(M:Mm)(H:ae)(id:Nat):Option Nat :=
 match H[id]? with
 | some (some (.zone _))=>(M.z id).cE
 | some (some _)=>some (M.j id)
 | _=>none
def uu(M:Mm)(H:ae)(b:Nat):Prop:=∃id,aV M H id=some b
def zFt:Ex->Code
 | .nx=>.skip
 | .exit id=>.exit id
 | .ret=>.ret
def WJ:B5->Loop->Prop
 | .ready,r=>r.state=.ready/\r.pending=none
 | .busy,r=>r.state=.busy
 | .done x,r=>r.state=.done/\r.pending=some (zFt x)
 | .over,_=>True
def LPs(ps:List Nat)(r:Loop):Prop:=r.params.toList=ps/\∀p∈ps,p<r.tmps.size
def aK(M:Mm)(w:World)(id:Nat):az->Prop
 | .cells a=>(∀c∈a,c.fg=true)/\M.gh (M.j id)=some 0/\∃xs e,w.heap[M.j id]?=some (.cells xs e (0,0))/\ai M w a (xs.toList.take a.length)
 | .grow a f g=>(∀c∈a,c.fg=true)/\M.gh (M.j id)=some 0/\(M.z id).n=0/\(M.z id).sz=f/\∃xs e,w.heap[M.j id]?=some (.cells xs e (0,0))/\xs.size=(M.z id).cap*f/\ai M w a (xs.toList.take a.length)/\(g=true->xs.size=a.length)
 | .zone n=>(M.z id).n=n /\
   match(M.z id).cE with
   | none=>(M.z id).cap=n
   | some b=>0<n/\n<=(M.z id).cap/\0<(M.z id).sz/\M.gh b=some (n*(M.z id).sz)/\∃xs e,w.heap[b]?=some (.cells xs e (0,0))/\xs.size=(M.z id).cap*(M.z id).sz
 | .jo a=>(∀c∈a,c.pure=true)/\M.gh (M.j id)=some a.length/\∃xs e,w.heap[M.j id]?=some (.cells xs e (0,0))/\ai M w a (xs.toList.take a.length)
 | .map d=>M.gh (M.j id)=some 0/\∃ents:Array MapEntry,w.heap[M.j id]?=some (.map ents d.length)/\ai M w (d.map (·.1)) (ents.toList.map (·.key))/\ai M w (d.map (·.2)) (ents.toList.map (·.val)) /\
   ∀(i:Nat) (x:MapEntry),ents[i]?=some x->x.born=i
 | .dF s pos=>M.gh (M.j id)=some 0/\w.heap[M.j id]?=some (.stringIter ⟨s.toArray⟩ pos)
 | .loop h k as bo st=>M.gh (M.j id)=some 0/\∃r:Loop,w.heap[M.j id]?=some (.loop r)/\WJ st r/\LPs k r/\M.fm.ur r.tmps.size as r.assign/\M.fm.ur r.tmps.size bo r.body /\
   ∀p∈h,aq M w p.2 (r.tmps.getD p.1 undef)
def B6(M:Mm)(w:World):Prop:=∀g cs,M.fm.gl g=some cs->aq M w (.cptr cs) (.pointer (some ⟨g,0,none⟩))
structure aG (M:Mm) (w:World) (H:ae):Prop where
 rE:∀id,M.al id=true↔∃cE,H[id]?=some (some cE)
 rel:∀id cE,H[id]?=some (some cE)->aK M w id cE
 inj:∀id rF b,aV M H id=some b->aV M H rF=some b->id=rF
 oI:B6 M w
def vb(a b:Z):Prop:=a.n<=b.n/\(a.n=b.n->a=b)
def vb.refl(a:Z):vb a a:=⟨aaf _,λ_=>rfl⟩
def vb.trans{a b c:Z}(h:vb a b)(k:vb b c):vb a c :=
 ⟨aaR h.1 k.1,λe=>by have d:=h.1;have f:=k.1;rw[h.2 an,k.2 an]⟩
structure ez (M:Mm) (H:ae) (w:World) (M':Mm) (H':ae) (w':World):Prop where
 os:w'.os=w.os
 tape:w'.tape=w.tape
 output:w'.output=w.output
 size:w.heap.size<=w'.heap.size
 same:∀b,b<w.heap.size->¬uu M H b->w'.heap[b]?=w.heap[b]?
 cells:∀b l o,b<w.heap.size->M.gh b=some l->o<l->w'.cell? ⟨b,o,none⟩=w.cell? ⟨b,o,none⟩
 nY:∀b,b<w.heap.size->M.gh b=none->M'.gh b=none
 jq:∀b l,b<w.heap.size->M.gh b=some l->∃l',M'.gh b=some l'/\l<=l'
 limo:∀b,b<w.heap.size->¬uu M H b->M'.gh b=M.gh b
 own:∀b,b<w.heap.size->uu M' H' b->uu M H b
 fm:M'.fm=M.fm
def eQ(M M':Mm)(n:Nat):Prop:=∀id,id<n->M.al id=true->M'.al id=true/\M'.j id=M.j id/\vb (M.z id) (M'.z id)
def eQ.refl(M:Mm)(n:Nat):eQ M M n:=λ_ _ h=>⟨h,rfl,vb.refl _⟩
def eQ.trans{M M' d:Mm}{n m:Nat}(h:eQ M M' n)(k:eQ M' d m)(i:n<=m):eQ M d n:=λid hi e=>by
 obtain⟨a,b,c⟩:=h id hi e;obtain⟨f,g,c'⟩:=k id an a;exact⟨f,g.trans b,c.trans c'⟩
def eQ.mono{M M':Mm}{n m:Nat}(h:eQ M M' n)(a:m<=n):eQ M M' m:=λid hi=>h id an
def aG.lt{M:Mm}{w:World}{H:ae}(h:aG M w H){id:Nat}(a:M.al id=true):id<H.length:=by obtain⟨c,b⟩:=(h.rE id).1 a;exact(aad.1 b).1
def ez.refl(M:Mm)(H:ae)(w:World):ez M H w M H w :=
 ⟨rfl,rfl,rfl,aaf _,λ_ _ _=>rfl,λ_ _ _ _ _ _=>rfl,λ_ _ h=>h,λ_ l _ h=>⟨l,h,aaf _⟩,λ_ _ _=>rfl,λ_ _ h=>h,rfl⟩
def ez.trans{M M' g:Mm}{H H' a:ae}{w w' i:World}(h:ez M H w M' H' w')(k:ez M' H' w' g a i):ez M H w g a i where
 os:=k.os.trans h.os
 tape:=k.tape.trans h.tape
 output:=k.output.trans h.output
 size:=aaR h.size k.size
 same b hb ho:=(k.same b (aau hb h.size) (λo=>ho (h.own b hb o))).trans (h.same b hb ho)
 cells b l o hb hl ho:=by obtain⟨c,d,e⟩:=h.jq b l hb hl;exact(k.cells b c o (aau hb h.size) d an).trans (h.cells b l o hb hl ho)
 nY b hb hl:=k.nY b (aau hb h.size) (h.nY b hb hl)
 jq b l hb hl:=by obtain⟨c,d,e⟩:=h.jq b l hb hl;obtain⟨f,j,m⟩:=k.jq b c (aau hb h.size) d;exact⟨f,j,an⟩
 limo b hb ho:=(k.limo b (aau hb h.size) (λo=>ho (h.own b hb o))).trans (h.limo b hb ho)
 own b hb o:=h.own b hb (k.own b (aau hb h.size) o)
 fm:=k.fm.trans h.fm
def aG.sK{M:Mm}{w:World}{H:ae}(h:aG M w H){b:Nat}(e:uu M H b):∃l,M.gh b=some l:=by
 obtain⟨id,a⟩:=e;unfold aV at a;split at a
 .rename_i n c;have:=h.rel id _ c;simp only[aK,a] at this;exact⟨_,this.2.2.2.2.1⟩
 .rename_i f g c;simp only[aab.injEq] at a;subst a;have:=h.rel id _ c
  cases f with
  | zone n=>exact absurd rfl (g n)
  | cells d=>simp only[aK] at this;exact⟨_,this.2.1⟩
  | jo d=>simp only[aK] at this;exact⟨_,this.2.1⟩
  | map i=>simp only[aK] at this;exact⟨_,this.1⟩
  | dF t pos=>simp only[aK] at this;exact⟨_,this.1⟩
  | loop j k as bo st=>simp only[aK] at this;exact⟨_,this.1⟩
  | grow d m o=>simp only[aK] at this;exact⟨_,this.2.1⟩
 .cases a
def ez.rd{M M':Mm}{H H':ae}{w w':World}(h:ez M H w M' H' w')(i:aG M w H){b o:Nat}{x:Value}
  (e:w.cell? ⟨b,o,none⟩=some x) (rd:Rd M b o):w'.cell? ⟨b,o,none⟩=some x/\Rd M' b o:=by
 have d:b<w.heap.size:=World.block_lt_of_cell? w _ e
 cases c:M.gh b with
 | none =>
  have j:¬uu M H b:=λf=>by obtain⟨l,a⟩:=i.sK f;rw[c] at a;cases a
  exact⟨(World.cell?_of_block (w:=w) (h.same b d j)).trans e,λl a=>by rw[h.nY b d c] at a;cases a⟩
 | some l =>
  have f:=rd l c;obtain⟨m,a,k⟩:=h.jq b l d c;exact⟨(h.cells b l o d c f).trans e,λn g=>by rw[a] at g;cases g;omega⟩
def gQ{M:Mm}{w:World}:∀{cs:List V} {xs:List Value},ai M w cs xs->xs.length=cs.length
 | [],xs,h=>by simp only[ai] at h;simp[h]
 | c::cs,xs,h=>by
  simp only[ai] at h;obtain⟨x,a,rfl,_,h⟩:=h;simp[gQ h]
def nZ{M:Mm}{w:World}:∀{cs:List V} {xs:List Value},ai M w cs xs->∀{i:Nat} {c:V},cs[i]?=some c->∃x,xs[i]?=some x/\aq M w c x
 | [],_,_,i,c,a=>by simp at a
 | c::cs,xs,h,i,c',a=>by
  simp only[ai] at h;obtain⟨x,d,rfl,b,h⟩:=h
  cases i with
  | zero=>simp at a;subst a;exact⟨x,ir,b⟩
  | succ i=>simp at a;simpa using nZ h a
def Am{M:Mm}{w:World}:∀{cs:List V} {xs:List Value},xs.length=cs.length->(∀(i:Nat) (c:V) (x:Value),cs[i]?=some c->xs[i]?=some x->aq M w c x)->ai M w cs xs
 | [],xs,a,_=>by simp only[ai];exact List.eq_nil_of_length_eq_zero a
 | c::cs,[],a,_=>by simp at a
 | c::cs,x::xs,a,h=>by
  simp only[ai];exact⟨x,xs,rfl,h 0 c x ir ir,Am (by simpa using a) (λi c' b d e=>h (i+1) c' b (by simpa using d) (by simpa using e))⟩
def yR{M:Mm}{w:World}{cs ds:List V}{xs ys:List Value}(h:ai M w cs xs)(k:ai M w ds ys):ai M w (cs++ds) (xs++ys):=by
 have f:=gQ h;have g:=gQ k;refine Am (by simp[f,g]) λi c x d a=>?_;rw[List.getElem?_append] at d a;rw[f] at a;split at d
 .rename_i hi;rw[if_pos hi] at a;obtain⟨j,b,e⟩:=nZ h d;rw[a] at b;cases b;exact e
 .rename_i hi;rw[if_neg hi] at a;obtain⟨j,b,e⟩:=nZ k d;rw[a] at b;cases b;exact e
def v5{M:Mm}{w:World}{cs:List V}{xs:List Value}(h:ai M w cs xs)(n:Nat):ai M w (cs.take n) (xs.take n):=by
 have e:=gQ h;refine Am (by simp[e]) λi c x a b=>?_;rw[aap] at a b;split at a
 .rename_i hi;rw[if_pos hi] at b;obtain⟨g,d,f⟩:=nZ h a;rw[b] at d;cases d;exact f
 .cases a
def x7{M:Mm}{w:World}{cs:List V}{xs:List Value}(h:ai M w cs xs)(n:Nat):ai M w (cs.drop n) (xs.drop n):=by have e:=gQ h;refine Am (by simp[e]) λi c x a b=>?_;rw[aaV] at a b;obtain⟨g,d,f⟩:=nZ h a;rw[b] at d;cases d;exact f
def WL{M:Mm}{w:World}{b:Nat}:∀{cs:List V} {o:Nat},fj M w b cs o->∀{i:Nat} {c:V},cs[i]?=some c->∃x,w.cell? ⟨b,o+i,none⟩=some x/\Rd M b (o+i)/\aq M w c x
 | [],_,_,i,c,a=>by simp at a
 | c::cs,o,h,i,c',a=>by
  simp only[fj] at h;obtain⟨⟨x,d,e,f⟩,h⟩:=h
  cases i with
  | zero=>simp at a;subst a;exact⟨x,by simpa using d,by simpa using e,f⟩
  | succ i =>
   simp at a;have:=WL h a;rw[show o+1+i=o+(i+1) by omega] at this;exact this
def Dl{M:Mm}{w:World}{b:Nat}:∀{cs:List V} {o:Nat},(∀(i:Nat) (c:V),cs[i]?=some c->∃x,w.cell? ⟨b,o+i,none⟩=some x/\Rd M b (o+i)/\aq M w c x)->fj M w b cs o
 | [],_,_=>by simp only[fj]
 | c::cs,o,h=>by
  simp only[fj];refine⟨by simpa using h 0 c ir,Dl λi c' a=>?_⟩;rw[show o+1+i=o+(i+1) by omega];exact h (i+1) c' (by simpa using a)
def znd{M:Mm}{w:World}{b:Nat}{cs ds:List V}{o:Nat}:fj M w b (cs++ds) o↔fj M w b cs o/\fj M w b ds (o+cs.length):=by
 induction cs generalizing o with
 | nil=>simp[fj]
 | cons c cs a =>
  simp only[List.cons_append,fj,a,abe];rw[show o+1+cs.length=o+(cs.length+1) by omega];exact and_assoc.symm
def JY{M:Mm}{w:World}{b:Nat}{es:List (List V)}{o:Nat}:fV M w b es o↔fj M w b es.flatten o:=by
 induction es generalizing o with
 | nil=>simp[fj,fV]
 | cons e es a=>simp only[fV,aaF,znd,a]
def WM{M:Mm}{w:World}{b:Nat}{es fs:List (List V)}{o:Nat}:fV M w b (es++fs) o↔fV M w b es o/\fV M w b fs (o+es.flatten.length):=by simp only[JY,aaP,znd]
def WN{M:Mm}{w:World}{c:V}{x:Value}(h:aq M w c x)(a:c.fg=true):x.oneCell'=true:=by
 cases c<;>simp only[V.fg,aas] at a<;>simp only[aq] at h
 case any=>exact h
 case int=>subst h;rfl
 case bool=>subst h;rfl
 case str=>subst h;rfl
 case nilp=>subst h;rfl
 case ptr=>obtain⟨_,rfl⟩:=h;rfl
 case cptr=>obtain⟨_,_,_,rfl,_⟩:=h;rfl
 case vs=>obtain⟨_,_,_,rfl,_⟩:=h;rfl
 case rs=>obtain⟨_,_,rfl,_⟩:=h;rfl
 case fn=>obtain⟨_,rfl,_⟩:=h;rfl
 case nilf=>subst h;rfl
 case mp=>obtain⟨_,rfl⟩:=h;rfl
 case nilm=>subst h;rfl
 case yld=>obtain⟨_,rfl⟩:=h;rfl
 case gs=>obtain⟨_,_,rfl,_⟩:=h;rfl
mutual
def aq.step{M M':Mm}{H H':ae}{w w':World}(h:ez M H w M' H' w')(d:aG M w H)(hi:eQ M M' H.length):∀{c:V} {x:Value},aq M w c x->aq M' w' c x
 | .undef,_,_=>by simp only[aq]
 | .lW,_,e=>by simpa only[aq] using e
 | .any,_,e=>by simpa only[aq] using e
 | .int _ _,_,e=>by simpa only[aq] using e
 | .bool _,_,e=>by simpa only[aq] using e
 | .str _,_,e=>by simpa only[aq] using e
 | .nilp,_,e=>by simpa only[aq] using e
 | .ptr id k,_,e=>by
  simp only[aq] at e |-;obtain⟨a,b,_⟩:=hi id (d.lt e.1) e.1
  exact⟨a,by rw[b];exact e.2⟩
 | .cptr m,_,e=>by
  simp only[aq] at e |-;obtain⟨p,b,o,g,e⟩:=e
  exact⟨p,b,o,g,fj.step h d hi e⟩
 | .vs D tk,_,e=>by
  simp only[aq] at e |-;obtain⟨p,a,i,g,l,j,r⟩:=e;refine⟨p,a,i,g,l,?_,?_⟩
  .cases a with
   | none=>exact j
   | some E=>exact⟨j.1,j.2.1,fV.step h d hi j.2.2⟩
  .cases tk with
   | no=>trivial
   | full=>exact r
   | own q =>
    obtain⟨s,y,A⟩:=r;obtain⟨B,_,z⟩:=hi q (d.lt s) s;refine⟨B,aaR y z.1,λt=>?_⟩;have u:=z.1
    have:(M.z q).n=(M'.z q).n:=an
    have:=z.2 this;rw[<-this] at t |-
    exact A t
 | .rs id k n _,_,e=>by
  simp only[aq] at e |-;obtain⟨a,b,_⟩:=hi id (d.lt e.1) e.1
  exact⟨a,by rw[b];exact e.2⟩
 | .fn f i,_,e=>by
  simp only[aq] at e |-;obtain⟨xs,g,e⟩:=e
  exact⟨xs,by rw[h.fm];exact g,ai.step h d hi e⟩
 | .nilf,_,e=>by simpa only[aq] using e
 | .nilm,_,e=>by simpa only[aq] using e
 | .mp id,_,e=>by
  simp only[aq] at e |-;obtain⟨a,b,_⟩:=hi id (d.lt e.1) e.1
  exact⟨a,by rw[b];exact e.2⟩
 | .yld id,_,e=>by
  simp only[aq] at e |-;obtain⟨a,b,_⟩:=hi id (d.lt e.1) e.1
  exact⟨a,by rw[b];exact e.2⟩
 | .gs id n,_,e=>by
  simp only[aq] at e |-;obtain⟨a,b,z⟩:=hi id (d.lt e.1) e.1;obtain⟨_,i,g,l,u⟩:=e;refine⟨a,i,by rw[b];exact g,l,λv=>?_⟩;have F:=z.1;have C:=z.2 an;rw[<-C] at v |-
  exact u v
 | .agg m,_,e=>by
  simp only[aq] at e |-;obtain⟨p,xs,g,e⟩:=e
  exact⟨p,xs,g,ai.step h d hi e⟩
 | .bf m,_,e=>by
  simp only[aq] at e |-;obtain⟨xs,g,e⟩:=e;exact⟨xs,g,ai.step h d hi e⟩
def ai.step{M M':Mm}{H H':ae}{w w':World}(h:ez M H w M' H' w')(a:aG M w H)(hi:eQ M M' H.length):∀{cs:List V} {xs:List Value},ai M w cs xs->ai M' w' cs xs
 | [],_,e=>by simpa only[ai] using e
 | c::cs,_,e=>by
  simp only[ai] at e |-;obtain⟨x,b,d,f,g⟩:=e;exact⟨x,b,d,aq.step h a hi f,ai.step h a hi g⟩
def fj.step{M M':Mm}{H H':ae}{w w':World}(h:ez M H w M' H' w')(a:aG M w H)(hi:eQ M M' H.length){b:Nat}:∀{cs:List V} {o:Nat},fj M w b cs o->fj M' w' b cs o
 | [],_,_=>by simp only[fj]
 | c::cs,o,e=>by
  simp only[fj] at e |-;obtain⟨⟨x,d,rd,f⟩,g⟩:=e;have:=h.rd a d rd;exact⟨⟨x,this.1,this.2,aq.step h a hi f⟩,fj.step h a hi g⟩
def fV.step{M M':Mm}{H H':ae}{w w':World}(h:ez M H w M' H' w')(a:aG M w H)(hi:eQ M M' H.length){b:Nat}:∀{es:List (List V)} {o:Nat},fV M w b es o->fV M' w' b es o
 | [],_,_=>by simp only[fV]
 | e::es,o,k=>by
  simp only[fV] at k |-;exact⟨fj.step h a hi k.1,fV.step h a hi k.2⟩
end
def B6.step{M M':Mm}{H H':ae}{w w':World}(h:ez M H w M' H' w')(a:aG M w H)(hi:eQ M M' H.length)(g:B6 M w):B6 M' w' :=
 λk b c=>aq.step h a hi (g k b (by rw[<-h.fm];exact c))
end Go.Ev
namespace Go.Ev
open Go Go.RowKit
abbrev Env:=Nat->V
def Env.put(e:Env)(d:Option Nat)(v:V):Env :=
 match d with
 | some d=>λi=>if i=d then v else e i
 | none=>e
def Env.iY(e:Env)(d:Nat)(v:V)(i:Nat):(e.put (some d) v) i=if i=d then v else e i:=rfl
def gP:List (Nat×V)->Env
 | []=>λ_=>.undef
 | (d,v)::l=>λi=>if i=d then v else gP l i
def look(e:Env):List Nat->List (Nat×V)
 | []=>[]
 | i::l=>(i,e i)::look e l
def rZ:List Nat->List V->Env->Env
 | p::a,v::vs,e=>rZ a vs (e.put (some p) v)
 | _,_,e=>e
def X.ev(e:Env):X->V
 | .t i=>e i
 | .c v=>v
def V.cells?:V->Option (List V)
 | .undef|.lW|.bf _=>none
 | .agg a=>some a
 | v=>some [v]
def mk(a:Bool)(cs:List V):Option V :=
 if a then some (.agg cs) else match cs with|[c]=>some c|_=>none
def Tk.cl(n:Nat):Tk->Tk
 | .own q=>if q<n then .own q else .no
 | .no=>.no
 | .full=>.full
mutual
def V.cl(n:Nat):V->V
 | .ptr id a=>if id<n then .ptr id a else .any
 | .rs id a k e=>if id<n then .rs id a k e else .any
 | .vs g tk=>.vs g (tk.cl n)
 | .fn f d=>.fn f (a_ n d)
 | .agg c=>.agg (a_ n c)
 | .bf c=>.bf (a_ n c)
 | .undef=>.undef
 | .lW=>.lW
 | .any=>.any
 | .int k i=>.int k i
 | .bool b=>.bool b
 | .str s=>.str s
 | .nilp=>.nilp
 | .cptr c=>.cptr c
 | .nilf=>.nilf
 | .mp id=>if id<n then .mp id else .any
 | .nilm=>.nilm
 | .yld id=>if id<n then .yld id else .any
 | .gs id k=>if id<n then .gs id k else .any
def a_(n:Nat):List V->List V
 | []=>[]
 | c::a=>c.cl n::a_ n a
end
def az.cl(n:Nat):az->az
 | .cells a=>.cells (a_ n a)
 | .zone k=>.zone k
 | .jo a=>.jo (a_ n a)
 | .map b=>.map (b.map λp=>(p.1.cl n,p.2.cl n))
 | .dF s pos=>.dF s pos
 | .loop c d as bo st=>.loop (c.map λp=>(p.1,p.2.cl n)) d as bo st
 | .grow a e f=>.grow (a_ n a) e f
def ak(n:Nat)(H:ae):ae:=(H.take n).map (abF (az.cl n))
inductive UOp where
 | neg|not|xor
 deriving DecidableEq
def jJ(k:IntKind)(a b:Int):Int:=k.wrap (aaz k.bits a &&& aaz k.bits b).toNat
def uI(k:IntKind)(a b:Int):Int:=k.wrap (aaz k.bits a ||| aaz k.bits b).toNat
def uM(k:IntKind)(a b:Int):Int:=k.wrap (aaz k.bits a ^^^ aaz k.bits b).toNat
def JZ(k:IntKind)(a b:Int):Int:=k.wrap (aaz k.bits a &&& ~~~aaz k.bits b).toNat
def je(k:IntKind)(a b:Int):Int:=k.wrap (a*2^(min b.toNat k.bits))
def jI(k:IntKind)(a b:Int):Int:=a.fdiv (2^(min b.toNat k.bits))
def gH(k:IntKind)(a b:Int):Int:=k.wrap (a.tdiv b)
def da(k:IntKind)(a b:Int):Int:=k.wrap (a*b)
def aB(k:IntKind)(a b:Int):Int:=k.wrap (a+b)
def cL(k:IntKind)(a b:Int):Int:=k.wrap (a-b)
def iu(a b:Int):Int:=a.tmod b
def An(k:IntKind)(a:Int):Int:=k.wrap (0-a)
def zX(k:IntKind)(a:Int):Int:=k.wrap (aaz k.bits (if k.signed then -1 else k.max) ^^^ aaz k.bits a).toNat
def eO(k:IntKind)(a:Int):Int:=k.wrap a
def WQ(op:BinOp):V->V->Option V
 | .int k a,.int c b =>
  match op with
  | .shl=>if b<0 then none else some (.int k (je k a b))
  | .shr=>if b<0 then none else some (.int k (jI k a b))
  | .add=>if k=c then some (.int k (aB k a b)) else none
  | .sub=>if k=c then some (.int k (cL k a b)) else none
  | .mul=>if k=c then some (.int k (da k a b)) else none
  | .quo=>if k=c then(if b=0 then none else some (.int k (gH k a b))) else none
  | .rem=>if k=c then(if b=0 then none else some (.int k (iu a b))) else none
  | .and=>if k=c then some (.int k (jJ k a b)) else none
  | .or=>if k=c then some (.int k (uI k a b)) else none
  | .xor=>if k=c then some (.int k (uM k a b)) else none
  | .andNot=>if k=c then some (.int k (JZ k a b)) else none
  | .eql=>if k=c then some (.bool (a==b)) else none
  | .neq=>if k=c then some (.bool (a !=b)) else none
  | .lss=>if k=c then some (.bool (decide (a<b))) else none
  | .leq=>if k=c then some (.bool (decide (a<=b))) else none
  | .gtr=>if k=c then some (.bool (decide (a>b))) else none
  | .geq=>if k=c then some (.bool (decide (a≥b))) else none
 | .str a,.str b =>
  match op with
  | .add=>if a.length+b.length<=9223372036854775807 then some (.str (a++b)) else none
  | .eql=>some (.bool (a==b))
  | .neq=>some (.bool !(a==b))
  | .lss=>some (.bool (Op.bytesLess a b))
  | .leq=>some (.bool (Op.bytesLess a b||a==b))
  | .gtr=>some (.bool !(Op.bytesLess a b||a==b))
  | .geq=>some (.bool !(Op.bytesLess a b))
  | _=>none
 | _,_=>none
def Ht(op:UnOp):V->Option V
 | .int k n =>
  match op with
  | .neg=>some (.int k (An k n))
  | .xor=>some (.int k (zX k n))
  | _=>none
 | .bool b =>
  match op with
  | .not=>some (.bool !b)
  | _=>none
 | _=>none
def nV(e:Env):List V->List (Nat×Nat×X)->Option (List V)
 | cs,[]=>some cs
 | cs,(a,b,x)::c =>
  match(x.ev e).cells? with
  | some ds=>if ds.length=b/\a+ds.length<=cs.length then nV e (cs.take a++ds++cs.drop (a+ds.length)) c else none
  | none=>none
def Ao(e:Env)(sz:Nat):List (List V)->List (Nat×X)->Option (List (List V))
 | es,[]=>some es
 | es,(i,x)::a =>
  match(x.ev e).cells? with
  | some ds=>if i<es.length/\ds.length=sz/\ds.all V.pure=true then Ao e sz (es.set i ds) a else none
  | none=>none
def intOf?:V->Option Int
 | .int _ n=>some n
 | _=>none
def sm(e:Env)(len:Nat)(lo hi mx:Option X):Option (Nat×Nat×Bool) :=
 let h?:Option Int:=match hi with|some x=>intOf? (x.ev e)|none=>some len
 let l?:Option Int:=match lo with|some x=>intOf? (x.ev e)|none=>some 0
 let m?:Option (Option Int):=match mx with|some x=>(intOf? (x.ev e)).map some|none=>some none
 match l?,h?,m? with
 | some l,some h,some m =>
  if 0<=l/\l<=h/\h<=len/\(∀v,m=some v->v=h)/\(mx.isSome->hi.isSome) then some (l.toNat,h.toNat,m.isSome) else none
 | _,_,_=>none
def V.eqc:V->V->Option Bool
 | .int k a,.int c b=>if k=c then some (a==b) else none
 | .bool a,.bool b=>some (a==b)
 | .str a,.str b=>some (a==b)
 | _,_=>none
def yS:List V->List V->Option Bool
 | [],[]=>some true
 | a::as,b::c=>match a.eqc b,yS as c with
  | some x,some y=>some (x&&y)
  | _,_=>none
 | _,_=>none
def qi:Kd->V->V->Option Bool
 | .int,.int k a,.int c b=>if k=c then some (a==b) else none
 | .bool,.bool a,.bool b=>some (a==b)
 | .str,.str a,.str b=>some (a==b)
 | _,_,_=>none
def cB:List Kd->List V->List V->Option Bool
 | [],[],[]=>some true
 | k::c,a::as,b::d=>match qi k a b,cB c as d with
  | some x,some y=>some (x&&y)
  | _,_=>none
 | _,_,_=>none
def j4(ks:Ky)(a b:V):Option Bool :=
 match ks,a,b with
 | .sc k,a,b=>qi k a b
 | .row ks,.agg x,.agg y=>cB ks x y
 | _,_,_=>none
def j0(ks:Ky)(k:V):List (V×V)->Nat->Option (Option (Nat×V))
 | [],_=>some none
 | p::a,i=>match j4 ks k p.1 with
  | some true=>some (some (i,p.2))
  | some false=>j0 ks k a (i+1)
  | none=>none
def MF(mx:Bool)(a b:Int):Int:=if mx then(if b>a then b else a) else(if b<a then b else a)
def r6(e:Env)(mx:Bool)(k:IntKind):Int->List X->Option V
 | a,[]=>some (.int k a)
 | a,x::xs=>match x.ev e with
  | .int c b=>if k=c then r6 e mx k (MF mx a b) xs else none
  | _=>none
def B7:List (List V)->Option (List UInt8)
 | []=>some []
 | [.int .u8 n]::a=>match B7 a with|some b=>some (UInt8.ofNat n.toNat::b)|none=>none
 | _=>none
def qv(s:List UInt8):List (List V):=s.map λb=>[V.int .u8 b.toNat]
def V.elems?:V->Option (List (List V))
 | .vs a _=>some a
 | .str s=>some (qv s)
 | _=>none
def Q8(H:ae)(sz:Nat):V->Option (List V)
 | .vs b _=>if b.all (λf=>f.length==sz) then some b.flatten else none
 | .rs id a n _=>match H[id]? with
  | some (some (.cells c))=>if a+n*sz<=c.length then some ((c.drop a).take (n*sz)) else none
  | _=>none
 | _=>none
def k8(H:ae)(i:Nat):Bool:=match H[i]? with|some none=>true|_=>false
def pg(sz:Nat):Nat->List V->List (List V)
 | 0,_=>[]
 | k+1,a=>a.take sz::pg sz k (a.drop sz)
def loadAt(H:ae)(sz:Nat)(b:Bool)(id off:Nat):Option (V×ae) :=
 match H[id]? with
 | some (some (.cells a))=>if off+sz<=a.length then(mk b ((a.drop off).take sz)).map (·,H) else none
 | _=>none
def V.ptrId?:V->Option Nat
 | .ptr id _=>some id
 | .rs id _ _ _=>some id
 | _=>none
def storeAt(H:ae)(sz id off:Nat)(v:V):Option (V×ae) :=
 match v.cells?,H[id]? with
 | some ds,some (some (.cells a))=>if ds.length=sz/\off+sz<=a.length then some (.undef,H.set id (some (.cells (a.take off++ds++a.drop (off+sz))))) else none
 | _,_=>none
def V.k9:V->V
 | .vs a _=>.vs a .no
 | v=>v
def V.Fa:V->V
 | .vs a _=>.vs a .no
 | .agg b=>.agg (b.map V.k9)
 | v=>v
def aX(base:Nat)(e:Env)(H:ae):dO->Option (V×ae)
 | .mv x=>some (x.ev e,H)
 | .pick c a b=>match c.ev e with|.bool t=>some (if t then a.ev e else b.ev e,H)|_=>none
 | .box s x=>match(x.ev e).cells? with
  | some j=>if k8 H (base+s)=true then some (.ptr (base+s) 0,H.set (base+s) (some (.cells j))) else none
  | none=>none
 | .alloc s z=>if k8 H (base+s)=true then some (.ptr (base+s) 0,H.set (base+s) (some (.cells z))) else none
 | .build z C=>match nV e z C with|some j=>some (.agg j,H)|none=>none
 | .bslice n z C=>match Ao e z.length (aal n z) C with|some u=>some (.vs u .full,H)|none=>none
 | .load g A G x=>match x.ev e with
  | .ptr id d=>if G=true/\base<=id then none else match H[id]? with
   | some (some (.cells j))=>if d+g<=j.length then(mk A ((j.drop d).take g)).map (·,H) else none
   | _=>none
  | .cptr j=>if g<=j.length then(mk A (j.take g)).map (·,H) else none
  | _=>none
 | .store g a x=>match a.ev e,(x.ev e).cells? with
  | .ptr id d,some ds=>match H[id]? with
   | some (some (.cells j))=>if ds.length=g/\d+g<=j.length then some (.undef,H.set id (some (.cells (j.take d++ds++j.drop (d+g))))) else none
   | _=>none
  | _,_=>none
 | .pz d x=>match x.ev e with
  | .ptr id o=>some (.ptr id (o+d),H)
  | .cptr j=>some (.cptr (j.drop d),H)
  | _=>none
 | .Ho d g A x=>match x.ev e with
  | .agg j=>if d+g<=j.length then(mk A ((j.drop d).take g)).map (·,H) else none
  | _=>none
 | .qN g x i=>match x.ev e,i.ev e with
  | .vs u _,.int _ n=>if 0<=n then match u[n.toNat]? with
    | some j=>if j.length=g then some (.cptr j,H) else none
    | none=>none
   else none
  | .rs id d k _,.int _ n=>if 0<=n/\n<k then some (.ptr id (d+n.toNat*g),H) else none
  | _,_=>none
 | .mQ w g x i=>match x.ev e,i.ev e with
  | .ptr id d,.int _ n=>if 0<=n/\n<w then some (.ptr id (d+n.toNat*g),H) else none
  | .cptr j,.int _ n=>if 0<=n/\n<w then some (.cptr (j.drop (n.toNat*g)),H) else none
  | _,_=>none
 | .idx w g A x i=>match x.ev e,i.ev e with
  | .agg j,.int _ n=>if 0<=n/\n<w/\n.toNat*g+g<=j.length then(mk A ((j.drop (n.toNat*g)).take g)).map (·,H) else none
  | _,_=>none
 | .bin I x y=>(WQ I (x.ev e) (y.ev e)).map (·,H)
 | .beq neg x y=>match x.ev e,y.ev e with
  | .bool a,.bool b=>some (.bool (if neg then !(a==b) else a==b),H)
  | _,_=>none
 | .un I x=>(Ht I (x.ev e)).map (·,H)
 | .conv k x=>match x.ev e with|.int _ n=>some (.int k (eO k n),H)|_=>none
 | .mkfn f D=>some (.fn f (D.map (X.ev e)),H)
 | .ext i x=>match x.ev e with|.bf j=>(j[i]?).map (·,H)|_=>none
 | .len st x=>match st,x.ev e with
  | false,.vs u _=>some (.int .i64 u.length,H)
  | false,.rs _ _ n _=>some (.int .i64 n,H)
  | true,.str s=>some (.int .i64 s.length,H)
  | _,_=>none
 | .app s g bytes x y=>match x.ev e,(y.ev e).elems? with
  | .vs u tk,some E =>
   if E=[] then some (.vs u tk,H) else
   if(u.length+E.length)*bytes<=140737488355328/\(∀f∈E,f.length=g)/\(∀f∈u,f.length=g) then
    match tk with
    | .own q=>match H[q]? with
     | some (some (.zone n))=>if n=u.length then some (.vs (u++E) (.own q),H.set q (some (.zone (n+E.length)))) else none
     | _=>none
    | .full=>if k8 H (base+s)=true then some (.vs (u++E) (.own (base+s)),H.set (base+s) (some (.zone (u.length+E.length)))) else none
    | .no=>none
   else none
  | _,_=>none
 | .slc g x lo hi F=>match x.ev e with
  | .vs u tk=>match sm e u.length lo hi F with
   | some (l,h,m)=>if(∀f∈u,f.length=g) then some (.vs ((u.drop l).take (h-l)) (if m=true\/tk=.full/\h=u.length then .full else .no),H) else none
   | none=>none
  | .rs id d n K=>match sm e n lo hi F with
   | some (l,h,m)=>if l=0\/l<n/\m=false then some (.rs id (d+l*g) (h-l) K,H) else none
   | none=>none
  | _=>none
 | .qO x=>match x.ev e with
  | .ptr id o=>some (.ptr id o,H)
  | .cptr j=>some (.cptr j,H)
  | .fn f D=>some (.fn f D,H)
  | _=>none
 | .pY s bytes z n=>match n.ev e with
  | .int _ k=>if k8 H (base+s)=true/\0<=k/\k.toNat*bytes<=140737488355328 then some (.rs (base+s) 0 k.toNat z.length,H.set (base+s) (some (.cells (aal k.toNat z).flatten))) else none
  | _=>none
 | .Hp B neg x y=>match x.ev e,y.ev e with
  | .agg j,.agg ds=>match cB B j ds with
   | some b=>some (.bool (if neg then !b else b),H)
   | none=>none
  | _,_=>none
 | .pB k neg x=>match k,x.ev e with
  | 0,.fn _ _=>some (.bool neg,H)
  | 0,.nilf=>some (.bool !neg,H)
  | 1,.ptr _ _=>some (.bool neg,H)
  | 1,.cptr _=>some (.bool neg,H)
  | 1,.nilp=>some (.bool !neg,H)
  | 2,.mp _=>some (.bool neg,H)
  | 2,.nilm=>some (.bool !neg,H)
  | _,_=>none
 | .mm F xs=>match xs with
  | x::xs=>match x.ev e with
   | .int k a=>(r6 e F k a xs).map (·,H)
   | _=>none
  | []=>none
 | .wW x i=>match x.ev e,i.ev e with
  | .str s,.int _ n=>if 0<=n then match s[n.toNat]? with
    | some b=>some (.int .u8 b.toNat,H)
    | none=>none
   else none
  | _,_=>none
 | .sslc x lo hi=>match x.ev e with
  | .str s=>match sm e s.length lo hi none with
   | some (l,h,_)=>some (.str ((s.drop l).take (h-l)),H)
   | none=>none
  | _=>none
 | .Hq x=>match x.ev e with
  | .vs u _=>match B7 u with
   | some s=>some (.str s,H)
   | none=>none
  | _=>none
 | .Hr x=>match x.ev e with
  | .int _ n=>some (.str (Utf8.encode n).data.toList,H)
  | _=>none
 | .qP s=>if k8 H (base+s)=true then some (.mp (base+s),H.set (base+s) (some (.map []))) else none
 | .tD B J z x k=>if B.isRow=true/\j4 B (k.ev e) (k.ev e)=none then none else match x.ev e with
  | .mp id=>match H[id]? with
   | some (some (.map u))=>match j0 B (k.ev e) u 0 with
    | some (some (_,v))=>some (if J then .bf [v,.bool true] else v,H)
    | some none=>some (if J then .bf [z,.bool false] else z,H)
    | none=>none
   | _=>none
  | .nilm=>some (if J then .bf [z,.bool false] else z,H)
  | _=>none
 | .mput B x k v=>match x.ev e with
  | .mp id=>if j4 B (k.ev e) (k.ev e)=none\/(v.ev e).cells?=none then none else match H[id]? with
   | some (some (.map u))=>match j0 B (k.ev e) u 0 with
    | some (some (i,_))=>some (.undef,H.set id (some (.map (u.set i (k.ev e,v.ev e)))))
    | some none=>some (.undef,H.set id (some (.map (u++[(k.ev e,v.ev e)]))))
    | none=>none
   | _=>none
  | _=>none
 | .va B z x k=>match x.ev e with
  | .mp id=>if j4 B (k.ev e) (k.ev e)=none then none else match H[id]? with
   | some (some (.map u))=>match j0 B (k.ev e) u 0 with
    | some (some (i,v))=>some (.bf [v,.int .i64 i],H.set id (some (.map (u.set i (k.ev e,v)))))
    | some none=>some (.bf [z,.int .i64 u.length],H.set id (some (.map (u++[(k.ev e,z)]))))
    | none=>none
   | _=>none
  | _=>none
 | .E8 x i v=>match x.ev e,i.ev e with
  | .mp id,.int _ n=>match H[id]? with
   | some (some (.map u))=>if 0<=n then match u[n.toNat]? with
     | some p=>some (.undef,H.set id (some (.map (u.set n.toNat (p.1,v.ev e)))))
     | none=>none
    else none
   | _=>none
  | _,_=>none
 | .E9 s x=>match x.ev e with
  | .str t=>if k8 H (base+s)=true then some (.ptr (base+s) 0,H.set (base+s) (some (.dF t 0))) else none
  | _=>none
 | .x6 x=>match x.ev e with
  | .ptr id 0=>match H[id]? with
   | some (some (.dF t pos)) =>
    if pos<t.length then some (.bf [.bool true,.int .i64 pos,.int .i32 (Utf8.decode ⟨t.toArray⟩ pos).1],H.set id (some (.dF t (pos+(Utf8.decode ⟨t.toArray⟩ pos).2))))
    else some (.bf [.bool false],H)
   | _=>none
  | _=>none
 | .wX w g x lo hi=>match sm e w lo hi none with
  | some (l,h,_)=>match x.ev e with
   | .ptr id d=>if l<w then some (.rs id (d+l*g) (h-l) g,H) else none
   | _=>none
  | none=>none
 | .E_ g x y=>match x.ev e with
  | .rs id d n _=>match H[id]?,Q8 H g (y.ev e) with
   | some (some (.cells j)),some ds =>
    if d+n*g<=j.length/\0<g then
     some (.int .i64 (min (ds.length/g) n:Nat),H.set id (some (.cells (j.take d++ds.take (min (ds.length/g) n*g)++j.drop (d+min (ds.length/g) n*g)))))
    else none
   | _,_=>none
  | _=>none
 | .loadR g A r x=>match x.ev e with
  | .ptr id d=>if(e r).ptrId?=some id then loadAt H g A id d else none
  | _=>none
 | .storeA g rs a x=>match a.ev e with
  | .ptr id d=>if rs.all (λr=>(e r).ptrId? !=some id) then storeAt H g id d (x.ev e) else none
  | _=>none
 | .bsliceR s n z C=>if k8 H (base+s)=true then match nV e (aal n z).flatten (C.map λq=>(q.1*z.length,z.length,q.2)) with
   | some j=>some (.rs (base+s) 0 n z.length,H.set (base+s) (some (.cells j)))
   | none=>none
  else none
 | .sJ g A x=>match x.ev e with
  | .cptr j=>if g<=j.length then(mk A (j.take g)).map (·,H) else none
  | _=>none
 | .jP s g a x=>match a.ev e with
  | .ptr id d=>if id=base+s then storeAt H g id d (x.ev e) else none
  | _=>none
 | .jD s n z C=>match Ao e z.length (aal n z) C with
  | some u=>if k8 H (base+s)=true then some (.gs (base+s) n,H.set (base+s) (some (.grow u.flatten z.length true))) else none
  | none=>none
 | .mark x=>match x.ev e with
  | .gs id n=>match H[id]? with
   | some (some (.grow j g true))=>if g=1/\j.length=n/\j.all V.pure=true then some (.vs (pg 1 n j) .full,H.set id (some (.zone 1))) else none
   | _=>none
  | _=>none
 | .loadA g A rs x=>match x.ev e with
  | .ptr id d=>if rs.all (λr=>(e r).ptrId? !=some id) then loadAt H g A id d else none
  | _=>none
 | .storeT g r a x=>match a.ev e with
  | .ptr id d=>if(e r).ptrId?=some id then storeAt H g id d (x.ev e) else none
  | _=>none
 | .pcall _ _|.scall _ _|.kcall _ _ _|.vcall _ _ _|.scallA _ _ _|.scallE _ _=>none
def yU(H:ae):V->V
 | .rs id a n b=>match H[id]? with
  | some (some (.cells c))=>if a+n*b<=c.length/\c.all V.pure=true then .vs (pg b n (c.drop a)) .no else .rs id a n b
  | _=>.rs id a n b
 | v=>v
def vc(H:ae):V->V
 | .bf vs=>.bf (vs.map (yU H))
 | v=>yU H v
def V.nf:V->V
 | .bf a=>.bf (a.map V.Fa)
 | v=>v.Fa
def V.out(v:V):V:=(v.cl 0).nf
def yV(l:List V):List V:=l.map V.out
structure aI where
 nt:Nat
 body:ba
 res:List jj
def oJ(l:List Nat)(e:Env):Env:=λi=>if i∈l then e i else .undef
def Env.cl(n:Nat)(e:Env):Env:=λi=>(e i).cl n
def wanted(e:Env)(o:aF):Option Bool :=
 match o.guard with
 | none=>some true
 | some (g,a)=>match e g with|.bool b=>some (b==a)|.lW=>some false|_=>none
def Dm(e:Env)(H:ae)(t:Nat):Option Nat->Option (Env×ae)
 | none=>match e t with
  | .vs a .full=>some (e.put (some t) (.vs a (.own H.length)),H++[some (.zone a.length)])
  | .vs a (.own q)=>some (e.put (some t) (.vs a (.own q)),H)
  | _=>none
 | some b=>match e t with
  | .ptr id o=>match H[id]? with
   | some (some (.cells c))=>match c[o+b]? with
    | some (.vs a .full)=>some (e,H.set id (some (.cells (c.set (o+b) (.vs a (.own H.length)))))++[some (.zone a.length)])
    | some (.vs _ (.own _))=>some (e,H)
    | _=>none
   | _=>none
  | _=>none
def mT(H:ae):List V->Option (List V×ae)
 | []=>some ([],H)
 | .rs id a n d::e=>match H[id]? with
  | some (some (.cells ds))=>if a+n*d<=ds.length/\ds.all V.pure=true then
    match mT (H.set id (some (.jo ds))) e with
    | some (b,H')=>some (.vs (pg d n (ds.drop a)) .no::b,H')
    | none=>none
   else none
  | some (some (.jo ds))=>if a+n*d<=ds.length then
    match mT H e with
    | some (b,H')=>some (.vs (pg d n (ds.drop a)) .no::b,H')
    | none=>none
   else none
  | _=>none
 | c::e=>match mT H e with
  | some (b,H')=>some (c::b,H')
  | none=>none
def Fb(e:Env)(H:ae)(t:Nat):Option (Env×ae) :=
 match e t with
 | .agg a=>match mT H a with
  | some (b,H')=>some (e.put (some t) (.agg b),H')
  | none=>none
 | .ptr id _=>match H[id]? with
  | some (some (.cells a))=>match mT H a with
   | some (b,H')=>match H'[id]? with
    | some (some (.cells _))=>some (e,H'.set id (some (.cells b)))
    | _=>none
   | none=>none
  | _=>none
 | v=>match mT H [v] with
  | some ([c],H')=>some (e.put (some t) c,H')
  | _=>none
def Q9(e:Env)(H:ae):jj->Option V
 | .tmp t=>some (e t)
 | .cell t b d=>match e t with
  | .ptr id a=>match H[id]? with
   | some (some (.cells c))=>if a+b<=c.length then mk d ((c.drop a).take b) else none
   | _=>none
  | _=>none
def u0(e:Env)(H:ae):List jj->Option (List V)
 | []=>some []
 | r::rs=>match Q9 e H r,u0 e H rs with
  | some v,some vs=>some (v::vs)
  | _,_=>none
def u4:List V->V
 | [v]=>v
 | vs=>.bf vs
def MG(args:List V):Env:=λi=>args.getD i .undef
inductive J where
 | F (f:Nat) (args:List V) (H:ae) (r:V) (H':ae)
 | S (base:Nat) (o:aF) (e:Env) (H:ae) (e':Env) (H':ae)
 | O (base:Nat) (os:List aF) (e:Env) (H:ae) (e':Env) (H':ae)
 | C (c:ba) (e:Env) (H:ae) (x:Ex) (e':Env) (H':ae)
 | L (n:Nat) (l:List Nat) (c:ba) (e:Env) (H:ae) (x:Ex) (e':Env) (H':ae)
def J0(e:Env)(rs:List Nat)(H H1:ae):Prop:=∀r∈rs,∀id,(e r).ptrId?=some id->H1[id]?=H[id]?
def LX(base:Nat)(args:List V)(H H':ae):Prop:=(∀v∈args,v.cl base=v)/\H.map (abF (az.cl base))=H/\H'.drop base=H.drop base
def yW:Nat->List V->ae->V->ae->Prop
 | 0,[.mp id,.int .u32 n],H,r,H'=>H'=H/\∃a:List (List UInt8×Int),H[id]?=some (some (.map (a.map λp=>(V.str p.1,V.int .u32 p.2))))/\(a.map (·.2)).Nodup/\r=.str (((a.find? λp=>p.2==n).map (·.1)).getD [])
 | 0,[.nilm,.int .u32 _],H,r,H'=>H'=H/\r=.str []
 | _,_,_,_,_=>False
inductive bD (G:Nat->Option aI):J->Prop
 | nat {f fn k args H r H'}:G f=some fn->fn.body=.nat k->yW k args H r H'->bD G (.F f args H r H')
 | fn {f fn args H x e' H' vs}:G f=some fn->args.length<=fn.nt->bD G (.C fn.body (MG args) H x e' H')->(x=.nx\/x=.ret)->u0 e' H' fn.res=some vs ->
   bD G (.F f args H (u4 vs) H')
 | ev {base o e H v H1}:wanted e o=some true->aX base e H o.op=some (v,H1)->bD G (.S base o e H (e.put o.dst v) H1)
 | skip {base o e H}:wanted e o=some false->bD G (.S base o e H (e.put o.dst .lW) H)
 | pcall {base o e H f xs r H1}:wanted e o=some true->o.op=.pcall f xs->bD G (.F f (yV (xs.map (X.ev e))) [] r H1) ->
   bD G (.S base o e H (e.put o.dst (vc H1 r).out) H)
 | scall {base o e H f xs r H1}:wanted e o=some true->o.op=.scall f xs->bD G (.F f (xs.map (X.ev e)) H r H1) ->
   bD G (.S base o e H (e.put o.dst (r.cl H.length)) (ak H.length H1))
 | scallA {base o e H rs f xs r H1}:wanted e o=some true->o.op=.scallA rs f xs->bD G (.F f (xs.map (X.ev e)) H r H1)->J0 e rs H (ak H.length H1) ->
   bD G (.S base o e H (e.put o.dst (r.cl H.length)) (ak H.length H1))
 | scallE {base o e H f xs r H1}:wanted e o=some true->o.op=.scallE f xs->bD G (.F f (xs.map (X.ev e)) H r H1)->LX base (xs.map (X.ev e)) H (ak H.length H1) ->
   bD G (.S base o e H (e.put o.dst (r.cl H.length)) (ak H.length H1))
 | kcall {base o e H ro f xs r H1}:wanted e o=some true->o.op=.kcall ro f xs->bD G (.F f (xs.map (X.ev e)) H r H1)->(ro=true->base<=H.length/\H1.take H.length=H) ->
   bD G (.S base o e H (e.put o.dst r) H1)
 | vcall {base o e H ro fx xs f cap r H1}:wanted e o=some true->o.op=.vcall ro fx xs->fx.ev e=.fn f cap->bD G (.F f (xs.map (X.ev e)++cap) H r H1) ->
   (ro=true->ak H.length H1=H)->bD G (.S base o e H (e.put o.dst (r.cl H.length)) (ak H.length H1))
 | j8 {base o e H fx xs id e0 ps as bo e1 H1 f0 qQ qR qS x e2 H2 g0 qT qU qV}:wanted e o=some true->o.op=.vcall false fx xs->fx.ev e=.yld id->H[id]?=some (some (.loop e0 ps as bo .ready))->xs.length=ps.length ->
   bD G (.C as (rZ ps (xs.map (X.ev e)) (gP e0)) H .nx e1 H1)->H1[id]?=some (some (.loop f0 qQ qR qS .ready))->bD G (.C bo e1 (H1.set id (some (.loop f0 qQ qR qS .busy))) x e2 H2) ->
   H2[id]?=some (some (.loop g0 qT qU qV .busy)) ->
   bD G (.S base o e H (e.put o.dst (.bool (decide (x=.nx)))) (ak H.length (H2.set id (some (.loop g0 qT qU qV (if x=.nx then .ready else .done x))))))
 | nil {base e H}:bD G (.O base [] e H e H)
 | cons {base o os e H e1 H1 e2 H2}:bD G (.S base o e H e1 H1)->bD G (.O base os e1 H1 e2 H2)->bD G (.O base (o::os) e H e2 H2)
 | Ap {e H}:bD G (.C .skip e H .nx e H)
 | region {m ops e H e' H'}:bD G (.O H.length ops e (H++aal m none) e' H')->bD G (.C (.region m ops) e H .nx e' H')
 | Dp {a b e H e1 H1 x e2 H2}:bD G (.C a e H .nx e1 H1)->bD G (.C b e1 H1 x e2 H2)->bD G (.C (.seq a b) e H x e2 H2)
 | Aq {a b e H x e1 H1}:bD G (.C a e H x e1 H1)->x≠.nx->bD G (.C (.seq a b) e H x e1 H1)
 | cond {c a b e H t x e1 H1}:c.ev e=.bool t->bD G (.C (if t then a else b) e H x e1 H1)->bD G (.C (.cond c a b) e H x e1 H1)
 | block {id c e H x e1 H1}:bD G (.C c e H x e1 H1)->bD G (.C (.block id c) e H (if x=.exit id then .nx else x) e1 H1)
 | loop {l c e H x e1 H1}:bD G (.L H.length l c e H x e1 H1)->bD G (.C (.loop l c) e H x e1 H1)
 | round {n l c e H e1 H1 x e2 H2}:bD G (.C c ((oJ l e).cl n) (ak n H) .nx e1 H1)->bD G (.L n l c e1 H1 x e2 H2)->bD G (.L n l c e H x e2 H2)
 | last {n l c e H x e1 H1}:bD G (.C c ((oJ l e).cl n) (ak n H) x e1 H1)->x≠.nx->bD G (.L n l c e H x e1 H1)
 | Ar {n k l c e H e1 H1 x e2 H2}:n<=k->k<=H.length->bD G (.C c ((oJ l e).cl k) (ak k H) .nx e1 H1)->bD G (.L n l c e1 H1 x e2 H2)->bD G (.L n l c e H x e2 H2)
 | As {n k l c e H x e1 H1}:n<=k->k<=H.length->bD G (.C c ((oJ l e).cl k) (ak k H) x e1 H1)->x≠.nx->bD G (.L n l c e H x e1 H1)
 | exit {id e H}:bD G (.C (.exit id) e H (.exit id) e H)
 | ret {e H}:bD G (.C .ret e H .ret e H)
 | keep {l e H}:bD G (.C (.keep l) e H .nx (oJ l e) H)
 | give {t off e H e1 H1}:Dm e H t off=some (e1,H1)->bD G (.C (.give t off) e H .nx e1 H1)
 | g9 {g l ps as bo e H f cap r H1 e0 vY yP yQ st x}:g.ev e=.fn f cap->bD G (.F f (.yld H.length::cap) (H++[some (.loop (look e l) ps as bo .ready)]) r H1) ->
   H1[H.length]?=some (some (.loop e0 vY yP yQ st))->(st=.ready/\x=.nx\/st=.done x/\x≠.nx)->bD G (.C (.g9 g l ps as bo) e H x e (ak H.length H1))
 | freeze {t e H e1 H1}:Fb e H t=some (e1,H1)->bD G (.C (.freeze t) e H .nx e1 H1)
open Go Go.RowKit
variable {M M':Mm} {H H':ae} {w w':World}
def getElem?_set_ne{α:Type}{l:List α}{i j:Nat}{a:α}(h:j≠i):(l.set i a)[j]?=l[j]?:=by rw[List.getElem?_set];rw[if_neg (λe=>h e.symm)]
def uv{i:Nat}:k8 H i=true↔H[i]?=some none:=by
 unfold k8
 split<;>simp_all
def aK.step(h:ez M H w M' H' w')(i:aG M w H)(hi:eQ M M' H.length){id:Nat}{q:az}(k:H[id]?=some (some q))
  (l:∀b,aV M H id=some b->w'.heap[b]?=w.heap[b]?/\M'.gh b=M.gh b) (v:M'.z id=M.z id):aK M' w' id q:=by
 have x:M.al id=true:=(i.rE id).2 ⟨q,k⟩;have A:=i.lt x;obtain⟨_,m,_⟩:=hi id A x;have g:=i.rel id q k
 cases q with
 | cells y =>
  simp only[aK] at g |-;obtain⟨a,b,xs,e,c,d⟩:=g;have:=l (M.j id) (by simp[aV,k]);rw[m]
  exact⟨a,this.2.trans b,xs,e,this.1.trans c,ai.step h i hi d⟩
 | zone n =>
  simp only[aK] at g |-;rw[v];refine⟨g.1,?_⟩;have o:=g.2
  cases u:(M.z id).cE with
  | none=>simp only[u] at o |-;exact o
  | some b =>
   simp only[u] at o |-;have:=l b (by simp[aV,k,u]);rw[this.1,this.2]
   exact o
 | jo y =>
  simp only[aK] at g |-;obtain⟨a,b,xs,e,c,d⟩:=g;have:=l (M.j id) (by simp[aV,k]);rw[m]
  exact⟨a,this.2.trans b,xs,e,this.1.trans c,ai.step h i hi d⟩
 | map L =>
  simp only[aK] at g |-;obtain⟨b,ents,c,d,d',f⟩:=g;have:=l (M.j id) (by simp[aV,k]);rw[m]
  exact⟨this.2.trans b,ents,this.1.trans c,ai.step h i hi d,ai.step h i hi d',f⟩
 | dF t pos =>
  simp only[aK] at g |-;have:=l (M.j id) (by simp[aV,k]);rw[m]
  exact⟨this.2.trans g.1,this.1.trans g.2⟩
 | grow y N O =>
  simp only[aK] at g |-;obtain⟨a,b,B,C,xs,e,c,s,d,D⟩:=g;have:=l (M.j id) (by simp[aV,k]);rw[m,v]
  exact⟨a,this.2.trans b,B,C,xs,e,this.1.trans c,s,ai.step h i hi d,D⟩
 | loop P Q as bo st =>
  simp only[aK] at g |-;obtain⟨a,r,E,o,F,G,I,J⟩:=g;have:=l (M.j id) (by simp[aV,k]);rw[m,h.fm];exact⟨this.2.trans a,r,this.1.trans E,o,F,G,I,λp K=>aq.step h i hi (J p K)⟩
structure iD (w w':World):Prop where
 os:w'.os=w.os
 tape:w'.tape=w.tape
 output:w'.output=w.output
 size:w.heap.size<=w'.heap.size
 block:∀b,b<w.heap.size->w'.heap[b]?=w.heap[b]?
def iD.refl(w:World):iD w w:=⟨rfl,rfl,rfl,aaf _,λ_ _=>rfl⟩
def iD.drew(w:World):iD w w.drew:=⟨rfl,rfl,rfl,aaf _,λ_ _=>rfl⟩
def iD.alloc(w:World)(o:Obj):iD w (w.alloc o):=⟨rfl,rfl,rfl,ir,λb a=>Below.heap_alloc w o b a⟩
def iD.trans{a b c:World}(h:iD a b)(k:iD b c):iD a c :=
 ⟨k.os.trans h.os,k.tape.trans h.tape,k.output.trans h.output,aaR h.size k.size,λi hi=>(k.block i (aau hi h.size)).trans (h.block i hi)⟩
def iD.cell(h:iD w w'){b o:Nat}(a:b<w.heap.size):w'.cell? ⟨b,o,none⟩=w.cell? ⟨b,o,none⟩ :=
 World.cell?_of_block (w:=w) (h.block b a)
def aG.fQ(h:aG M w H){b:Nat}(g:uu M H b):b<w.heap.size:=by
 obtain⟨id,c⟩:=g;unfold aV at c;split at c
 .rename_i n d;have:=h.rel id _ d;simp only[aK,c] at this;obtain⟨_,_,_,_,_,xs,e,a,_⟩:=this;exact(aao.1 a).1
 .rename_i i j d;have:=h.rel id _ d;simp only[aab.injEq] at c;subst c
  cases i with
  | zone n=>exact absurd rfl (j n)
  | cells f=>simp only[aK] at this;obtain⟨_,_,xs,e,a,_⟩:=this;exact(aao.1 a).1
  | jo f=>simp only[aK] at this;obtain⟨_,_,xs,e,a,_⟩:=this;exact(aao.1 a).1
  | map k=>simp only[aK] at this;obtain⟨_,ents,a,_⟩:=this;exact(aao.1 a).1
  | dF t pos=>simp only[aK] at this;exact(aao.1 this.2).1
  | loop l m as bo st=>simp only[aK] at this;obtain⟨_,r,a,_⟩:=this;exact(aao.1 a).1
  | grow f o p=>simp only[aK] at this;obtain⟨_,_,_,_,xs,e,a,_⟩:=this;exact(aao.1 a).1
 .cases c
structure Same (M M':Mm) (n:Nat):Prop where
 al:M'.al=M.al
 j:M'.j=M.j
 z:M'.z=M.z
 fm:M'.fm=M.fm
 gh:∀b,b<n->M'.gh b=M.gh b
def Same.refl(M:Mm)(n:Nat):Same M M n:=⟨rfl,rfl,rfl,rfl,λ_ _=>rfl⟩
def Same.bl{n:Nat}(s:Same M M' n)(id:Nat):aV M' H id=aV M H id:=by simp only[aV,s.j,s.z]
def MH(d:aG M w H)(g:iD w w')(s:Same M M' w.heap.size):ez M H w M' H w'/\eQ M M' H.length/\aG M' w' H:=by
 have c:ez M H w M' H w':={
  os:=g.os
  tape:=g.tape
  output:=g.output
  size:=g.size
  same:=λb a _=>g.block b a
  cells:=λb l o a _ _=>g.cell a
  nY:=λb a e=>(s.gh b a).trans e
  jq:=λb l a e=>⟨l,(s.gh b a).trans e,aaf _⟩
  limo:=λb a _=>s.gh b a
  own:=λb _ k=>by obtain⟨id,bH⟩:=k;exact⟨id,by rw[<-s.bl];exact bH⟩
  fm:=s.fm }
 have bH:eQ M M' H.length:=λid _ m=>⟨by rw[s.al];exact m,by rw[s.j],by rw[s.z];exact vb.refl _⟩;refine⟨c,bH,⟨λid=>by rw[s.al];exact d.rE id,λid q a=>?_,λid n b f h=>?_,d.oI.step c d bH⟩⟩
 .refine aK.step c d bH a (λb p=>?_) (by rw[s.z]);have i:=d.fQ ⟨id,p⟩;exact⟨g.block b i,s.gh b i⟩
 .rw[s.bl] at f h;exact d.inj id n b f h
def Mm.jq(M:Mm)(b:Nat)(l:Option Nat):Mm:={ M with gh:=λk=>if k=b then l else M.gh k }
def Same.jq(M:Mm)(n:Nat)(l:Option Nat):Same M (M.jq n l) n:=⟨rfl,rfl,rfl,rfl,λb a=>by simp only[Mm.jq];rw[if_neg an]⟩
def Mm.iL(M:Mm)(id b:Nat):Mm :=
 { M with al:=λi=>decide (i=id)||M.al i,j:=λi=>if i=id then b else M.j i,gh:=λk=>if k=b then some 0 else M.gh k }
def Q_(b:aG M w H){id:Nat}(c:k8 H id=true):M.al id=false:=by
 cases h:M.al id with
 | false=>rfl
 | true =>
  obtain⟨d,a⟩:=(b.rE id).1 h;rw[uv.1 c] at a;cases a
def Hu{id:Nat}(a:k8 H id=true):id<H.length:=(aad.1 (uv.1 a)).1
def az.oV:az->Bool
 | .zone _=>true
 | _=>false
def MJ(c:aG M w H){id:Nat}(s:k8 H id=true){blk0:az}{ob:Obj}(n:blk0.oV=false)
  (t:ez M H w (M.iL id w.heap.size) (H.set id (some blk0)) (w.alloc ob)->eQ M (M.iL id w.heap.size) H.length->aK (M.iL id w.heap.size) (w.alloc ob) id blk0) :
  ez M H w (M.iL id w.heap.size) (H.set id (some blk0)) (w.alloc ob)/\eQ M (M.iL id w.heap.size) H.length /\
  aG (M.iL id w.heap.size) (w.alloc ob) (H.set id (some blk0)):=by
 have u:=Q_ c s;have p:=Hu s;have g:=iD.alloc w ob
 have f:∀i,i≠id->aV (M.iL id w.heap.size) (H.set id (some blk0)) i=aV M H i:=by
  intro i hi;unfold aV;rw[getElem?_set_ne hi]
  split<;>simp_all [Mm.iL]
 have q:aV (M.iL id w.heap.size) (H.set id (some blk0)) id=some w.heap.size:=by
  unfold aV;rw[aah p]
  cases blk0<;>first|(simp[az.oV] at n;done)|simp[Mm.iL]
 have d:ez M H w (M.iL id w.heap.size) (H.set id (some blk0)) (w.alloc ob):={
  os:=g.os
  tape:=g.tape
  output:=g.output
  size:=g.size
  same:=λb a _=>g.block b a
  cells:=λb l o a _ _=>g.cell a
  nY:=λb a r=>by simp only[Mm.iL];rw[if_neg an];exact r
  jq:=λb l a r=>⟨l,by simp only[Mm.iL];rw[if_neg an];exact r,aaf _⟩
  limo:=λb a _=>by simp only[Mm.iL];rw[if_neg an]
  own:=λb a v=>by
   obtain⟨i,hi⟩:=v
   by_cases e:i=id
   .subst e;rw[q] at hi;cases hi;omega
   .rw[f i e] at hi;exact⟨i,hi⟩
  fm:=rfl }
 have m:eQ M (M.iL id w.heap.size) H.length:=λi _ hi=>by
  have:i≠id:=λe=>by subst e;rw[u] at hi;cases hi
  simp only[Mm.iL,hi,abL,true_and,if_neg this];exact vb.refl _
 refine⟨d,m,⟨λi=>?_,λi y a=>?_,λi h b j k=>?_,c.oI.step d c m⟩⟩
 .by_cases e:i=id
  .subst e;simp only[Mm.iL,decide_true,aaI,true_iff];exact⟨_,aah p⟩
  .simp only[Mm.iL,e,decide_false,abJ];rw[getElem?_set_ne e];exact c.rE i
 .by_cases e:i=id
  .subst e;rw[aah p] at a;simp only[aab.injEq] at a;subst a;exact t d m
  .rw[getElem?_set_ne e] at a;refine aK.step d c m a (λb f=>?_) rfl;have x:=c.fQ ⟨i,f⟩;refine⟨g.block b x,?_⟩;simp only[Mm.iL];rw[if_neg an]
 .by_cases e:i=id
  .by_cases e':h=id
   .omega
   .subst e;rw[q] at j;rw[f h e'] at k;cases j;have:=c.fQ ⟨h,k⟩;omega
  .by_cases e':h=id
   .subst e';rw[q] at k;rw[f i e] at j;cases k;have:=c.fQ ⟨i,j⟩;omega
   .rw[f i e] at j;rw[f h e'] at k;exact c.inj i h b j k
def zus{cs:List V}{xs:List Value}(h:ai M w cs xs):xs.take cs.length=xs:=by rw[<-gQ h];exact List.take_length
def Ra(b:aG M w H){id:Nat}(e:k8 H id=true){cs:List V}{xs:Array Value}{t:TypeId}(d:ai M w cs xs.toList)(f:∀c∈cs,c.fg=true) :
  ez M H w (M.iL id w.heap.size) (H.set id (some (.cells cs))) (w.alloc (.cells xs t))/\eQ M (M.iL id w.heap.size) H.length /\
  aG (M.iL id w.heap.size) (w.alloc (.cells xs t)) (H.set id (some (.cells cs))):=by
 refine MJ b e rfl λa g=>?_;simp only[aK];refine⟨f,by simp[Mm.iL],xs,t,?_,ai.step a b g (by rw[zus d];exact d)⟩;simp only[Mm.iL,if_true];exact heap_alloc_new w _
def Mm.cI(M:Mm)(b l:Nat):Mm:={ M with gh:=λk=>if k=b then some l else M.gh k }
def Rb(d:aG M w H){id:Nat}{blk0 blk1:az}(n:H[id]?=some (some blk0))(v:blk0.oV=false)(g:blk1.oV=false)(p:M.gh (M.j id)=some 0)(l:Nat)
  (os:w'.os=w.os) (tape:w'.tape=w.tape) (output:w'.output=w.output) (size:w'.heap.size=w.heap.size) (q:∀b,b≠M.j id->w'.heap[b]?=w.heap[b]?)
  (x:ez M H w (M.cI (M.j id) l) (H.set id (some blk1)) w'->eQ M (M.cI (M.j id) l) H.length->aK (M.cI (M.j id) l) w' id blk1) :
  ez M H w (M.cI (M.j id) l) (H.set id (some blk1)) w'/\eQ M (M.cI (M.j id) l) H.length/\aG (M.cI (M.j id) l) w' (H.set id (some blk1)):=by
 have r:id<H.length:=(aad.1 n).1;have y:M.al id=true:=(d.rE id).2 ⟨_,n⟩
 have h:aV M H id=some (M.j id):=by
  unfold aV;rw[n]
  cases blk0<;>first|(simp[az.oV] at v;done)|rfl
 have s:∀i,aV (M.cI (M.j id) l) (H.set id (some blk1)) i=aV M H i:=by
  intro i
  by_cases e:i=id
  .subst e;rw[h];unfold aV;rw[aah r]
   cases blk1<;>first|(simp[az.oV] at g;done)|rfl
  .unfold aV;rw[getElem?_set_ne e];rfl
 have c:ez M H w (M.cI (M.j id) l) (H.set id (some blk1)) w':={
  os:=os
  tape:=tape
  output:=output
  size:=by rw[size];exact aaf _
  same:=λb _ f=>q b (λe=>f ⟨id,by rw[h,e]⟩)
  cells:=λb l o _ a f=>by
   by_cases e:b=M.j id
   .subst e;rw[p] at a;cases a;omega
   .exact World.cell?_of_block (w:=w) (q b e)
  nY:=λb _ a=>by
   simp only[Mm.cI]
   rw[if_neg];· exact a
   intro e;subst e;rw[p] at a;cases a
  jq:=λb z _ a=>by
   simp only[Mm.cI]
   by_cases e:b=M.j id
   .subst e;rw[p] at a;cases a;exact⟨l,ir,abT _⟩
   .exact⟨z,by rw[if_neg e];exact a,aaf _⟩
  limo:=λb _ f=>by
   simp only[Mm.cI];rw[if_neg];intro e;exact f ⟨id,by rw[h,e]⟩
  own:=λb _ f=>by obtain⟨i,hi⟩:=f;exact⟨i,by rw[<-s];exact hi⟩
  fm:=rfl }
 have k:eQ M (M.cI (M.j id) l) H.length:=λi _ hi=>⟨hi,rfl,vb.refl _⟩;refine⟨c,k,⟨λi=>?_,λi C hi=>?_,λi A b g t=>?_,d.oI.step c d k⟩⟩
 .by_cases e:i=id
  .subst e;simp only[Mm.cI,y,true_iff];exact⟨_,aah r⟩
  .rw[getElem?_set_ne e];exact d.rE i
 .by_cases e:i=id
  .subst e;rw[aah r] at hi;simp only[aab.injEq] at hi;subst hi;exact x c k
  .rw[getElem?_set_ne e] at hi
   have u:∀b,aV M H i=some b->b≠M.j id:=λb m B=>by subst B;exact e (d.inj i id _ m h)
   refine aK.step c d k hi (λb m=>⟨q b (u b m),?_⟩) rfl;simp only[Mm.cI];rw[if_neg (u b m)]
 .rw[s] at g t;exact d.inj i A b g t
def WT(a:aG M w H){id:Nat}{cs ds:List V}(g:H[id]?=some (some (.cells cs))){xs:Array Value}{t:TypeId}
  (v:w.heap[M.j id]?=some (.cells xs t (0,0))) {ys:Array Value} (hd:ai M w ds (ys.toList.take ds.length)) (x:∀c∈ds,c.fg=true) :
  ez M H w M (H.set id (some (.cells ds))) (w.setRow (M.j id) ys)/\eQ M M H.length/\aG M (w.setRow (M.j id) ys) (H.set id (some (.cells ds))):=by
 have p:M.al id=true:=(a.rE id).2 ⟨_,g⟩;have h:=a.lt p
 have m:aV M H id=some (M.j id):=by simp[aV,g]
 have q:∀i,aV M (H.set id (some (.cells ds))) i=aV M H i:=by
  intro i
  by_cases e:i=id
  .subst e;rw[m];unfold aV;rw[aah h]
  .unfold aV;rw[getElem?_set_ne e]
 have r:M.gh (M.j id)=some 0:=by have:=a.rel id _ g;simp only[aK] at this;exact this.2.1
 have n:∀k,k≠M.j id->(w.setRow (M.j id) ys).heap[k]?=w.heap[k]?:=λk y=>setRow_other w (M.j id) k ys (λe=>y e)
 have d:ez M H w M (H.set id (some (.cells ds))) (w.setRow (M.j id) ys):={
  os:=rfl
  tape:=rfl
  output:=rfl
  size:=by simp[World.setRow]
  same:=λb z f=>n b (λe=>f ⟨id,by rw[m,e]⟩)
  cells:=λb l o z hl f=>by
   by_cases e:b=M.j id
   .subst e;rw[r] at hl;cases hl;omega
   .exact World.cell?_of_block (w:=w) (n b e)
  nY:=λ_ _ hl=>hl
  jq:=λb l _ hl=>⟨l,hl,aaf _⟩
  limo:=λ_ _ _=>rfl
  own:=λb _ f=>by obtain⟨i,hi⟩:=f;exact⟨i,by rw[<-q];exact hi⟩
  fm:=rfl }
 refine⟨d,eQ.refl _ _,⟨λi=>?_,λi D hi=>?_,λi A b s u=>?_,a.oI.step d a (eQ.refl _ _)⟩⟩
 .by_cases e:i=id
  .subst e;simp only[p,true_iff];exact⟨_,aah h⟩
  .rw[getElem?_set_ne e];exact a.rE i
 .by_cases e:i=id
  .subst e;rw[aah h] at hi;simp only[aab.injEq] at hi;subst hi;simp only[aK];exact⟨x,r,ys,t,setRow_heap w (M.j i) xs ys t _ v,ai.step d a (eQ.refl _ _) hd⟩
  .rw[getElem?_set_ne e] at hi;refine aK.step d a (eQ.refl _ _) hi (λb B=>⟨n b (λC=>?_),rfl⟩) rfl;subst C;exact e (a.inj i id _ B m)
 .rw[q] at s u;exact a.inj i A b s u
def Mm.mj(M:Mm)(id:Nat)(z:Z):Mm :=
 { M with al:=λi=>decide (i=id)||M.al i,z:=λi=>if i=id then z else M.z i,
          gh:=λk=>if z.cE=some k then some (z.n*z.sz) else M.gh k }
def WU(c:aG M w H){id:Nat}{z:Z}(r:k8 H id=true\/∃k,H[id]?=some (some (.zone k)))
  (os:w'.os=w.os) (tape:w'.tape=w.tape) (output:w'.output=w.output) (size:w.heap.size<=w'.heap.size)
  (u:∀b,b<w.heap.size->aV M H id≠some b->w'.heap[b]?=w.heap[b]?)
  (E:∀b l o,aV M H id=some b->M.gh b=some l->o<l->w'.cell? ⟨b,o,none⟩=w.cell? ⟨b,o,none⟩)
  (f:∀b,z.cE=some b->w.heap.size<=b\/aV M H id=some b)
  (F:∀b l,aV M H id=some b->z.cE=some b->M.gh b=some l->l<=z.n*z.sz)
  (v:M.al id=true->vb (M.z id) z)
  (t:match z.cE with
   | none=>z.cap=z.n
   | some b=>0<z.n/\z.n<=z.cap/\0<z.sz/\∃xs e,w'.heap[b]?=some (.cells xs e (0,0))/\xs.size=z.cap*z.sz) :
  ez M H w (M.mj id z) (H.set id (some (.zone z.n))) w'/\eQ M (M.mj id z) H.length/\aG (M.mj id z) w' (H.set id (some (.zone z.n))):=by
 have G:id<H.length:=by
  rcases r with r|⟨k,r⟩
  .exact Hu r
  .exact(aad.1 r).1
 have x:(H.set id (some (az.zone z.n)))[id]?=some (some (.zone z.n)):=aah G
 have y:aV (M.mj id z) (H.set id (some (.zone z.n))) id=z.cE:=by simp only[aV,x,Mm.mj,if_true]
 have s:∀i,i≠id->aV (M.mj id z) (H.set id (some (.zone z.n))) i=aV M H i:=by
  intro i hi;unfold aV;rw[getElem?_set_ne hi]
  split<;>simp_all [Mm.mj]
 have g:ez M H w (M.mj id z) (H.set id (some (.zone z.n))) w':={
  os:=os
  tape:=tape
  output:=output
  size:=size
  same:=λb a j=>u b a (λe=>j ⟨id,e⟩)
  cells:=λb l o a m j=>by
   by_cases e:aV M H id=some b
   .exact E b l o e m j
   .exact World.cell?_of_block (w:=w) (u b a e)
  nY:=λb a m=>by
   simp only[Mm.mj]
   rw[if_neg];· exact m
   intro e
   rcases f b e with h|h
   .omega
   .obtain⟨l,iI⟩:=c.sK ⟨id,h⟩;rw[m] at iI;cases iI
  jq:=λb l a m=>by
   by_cases e:z.cE=some b
   .refine⟨z.n*z.sz,by simp only[Mm.mj,e,if_true],?_⟩
    rcases f b e with h|h
    .omega
    .exact F b l h e m
   .exact⟨l,by simp only[Mm.mj];rw[if_neg e];exact m,aaf _⟩
  limo:=λb a j=>by
   simp only[Mm.mj];rw[if_neg];intro e
   rcases f b e with h|h
   .omega
   .exact j ⟨id,h⟩
  own:=λb a j=>by
   obtain⟨i,hi⟩:=j
   by_cases e:i=id
   .subst e;rw[y] at hi
    rcases f b hi with h|h
    .omega
    .exact⟨i,h⟩
   .rw[s i e] at hi;exact⟨i,hi⟩
  fm:=rfl }
 have A:eQ M (M.mj id z) H.length:=λi _ hi=>by
  refine⟨by simp only[Mm.mj,hi,abL],rfl,?_⟩;simp only[Mm.mj];split
  .rename_i e;subst e;exact v hi
  .exact vb.refl _
 refine⟨g,A,⟨λi=>?_,λi J a=>?_,λi d b p q=>?_,c.oI.step g c A⟩⟩
 .by_cases e:i=id
  .subst e;simp only[Mm.mj,decide_true,aaI,true_iff];exact⟨_,x⟩
  .simp only[Mm.mj,e,decide_false,abJ];rw[getElem?_set_ne e];exact c.rE i
 .by_cases e:i=id
  .subst e;rw[x] at a;simp only[aab.injEq] at a;subst a;simp only[aK,Mm.mj,if_true,true_and]
   cases B:z.cE with
   | none=>simp only[B] at t |-;exact t
   | some b=>simp only[B,if_true,true_and] at t |-;exact t
  .rw[getElem?_set_ne e] at a;refine aK.step g c A a (λb C=>?_) (by simp only[Mm.mj];rw[if_neg e]);have I:=c.fQ ⟨i,C⟩;have D:aV M H id≠some b:=λh=>e (c.inj i id b C h);refine⟨u b I D,?_⟩;simp only[Mm.mj];rw[if_neg];intro h
   rcases f b h with h|h
   .omega
   .exact D h
 .by_cases e:i=id
  .by_cases e':d=id
   .omega
   .subst e;rw[y] at p;rw[s d e'] at q
    rcases f b p with h|h
    .have:=c.fQ ⟨d,q⟩;omega
    .exact(c.inj i d b h q)
  .by_cases e':d=id
   .subst e';rw[y] at q;rw[s i e] at p
    rcases f b q with h|h
    .have:=c.fQ ⟨i,p⟩;omega
    .exact(c.inj i d b p h)
   .rw[s i e] at p;rw[s d e'] at q;exact c.inj i d b p q
def WX(M:Mm)(H:ae)(m i:Nat):aV M (H++aal m none) i=aV M H i:=by
 unfold aV
 by_cases hi:i<H.length
 .rw[aay hi]
 .rw[aaH an,abq (by omega:H.length<=i),abn]
  by_cases h:i-H.length<m<;>simp[h]
def zwW(H:ae)(m i:Nat)(a:az):(H++aal m none)[i]?=some (some a)↔H[i]?=some (some a):=by
 by_cases hi:i<H.length
 .rw[aay hi]
 .rw[aaH an,abq (by omega:H.length<=i),abn]
  by_cases h:i-H.length<m<;>simp[h]
def Rc(a:aG M w H)(m:Nat):aG M w (H++aal m none) :=
 ⟨λi=>(a.rE i).trans (exists_congr λc=>(zwW H m i c).symm),λi c d=>a.rel i c ((zwW H m i c).1 d),
  λi e b f g=>a.inj i e b (by rw[<-WX M H m];exact f) (by rw[<-WX M H m];exact g),a.oI⟩
def WY(M:Mm)(H:ae)(w:World)(m:Nat):ez M H w M (H++aal m none) w :=
 have own:∀b,uu M (H++aal m none) b->uu M H b:=λb ⟨i,hi⟩=>⟨i,by rw[<-WX M H m];exact hi⟩
 { ez.refl M H w with own:=λb _ a=>own b a }
def Mm.upto(M:Mm)(n:Nat):Mm:={ M with al:=λi=>decide (i<n)&&M.al i }
def V.qk(n:Nat)(c:V)(h:c.fg=true):(c.cl n).fg=true:=by cases c<;>first|(simp[V.fg] at h;done)|rfl|(simp only[V.cl];split<;>rfl)
def V.qm(n:Nat)(c:V)(h:c.pure=true):c.cl n=c:=by
 cases c<;>first
  | rfl
  | (simp[V.pure] at h;done)
  | (rename_i b tk;cases tk<;>first|rfl|(simp[V.pure] at h;done))
  | (rename_i f a;cases a<;>first|rfl|(simp[V.pure] at h;done))
def iW(n:Nat):∀cs:List V,a_ n cs=cs.map (V.cl n)
 | []=>rfl
 | c::cs=>by simp[a_,iW n cs]
def lY.upto{n:Nat}{es:List (List V)}{a:Option Addr}{cap:Nat}{tk:Tk}(h:lY M es a cap tk) :
  lY (M.upto n) es a cap (tk.cl n):=by
 cases tk with
 | no=>trivial
 | full=>exact h
 | own q =>
  simp only[Tk.cl];split
  .rename_i d;obtain⟨a,b,c⟩:=h;exact⟨by simp[Mm.upto,d,a],b,c⟩
  .trivial
mutual
def aq.upto(n:Nat):∀{c:V} {x:Value},aq M w c x->aq (M.upto n) w (c.cl n) x
 | .undef,_,_=>by simp only[V.cl,aq]
 | .lW,_,e=>by simpa only[V.cl,aq] using e
 | .any,_,e=>by simpa only[V.cl,aq] using e
 | .int _ _,_,e=>by simpa only[V.cl,aq] using e
 | .bool _,_,e=>by simpa only[V.cl,aq] using e
 | .str _,_,e=>by simpa only[V.cl,aq] using e
 | .nilp,_,e=>by simpa only[V.cl,aq] using e
 | .nilf,_,e=>by simpa only[V.cl,aq] using e
 | .nilm,_,e=>by simpa only[V.cl,aq] using e
 | .mp id,_,e=>by
  simp only[V.cl];simp only[aq] at e;split
  .rename_i h;simp only[aq];exact⟨by simp[Mm.upto,h,e.1],e.2⟩
  .simp only[aq];rw[e.2];rfl
 | .yld id,_,e=>by
  simp only[V.cl];simp only[aq] at e;split
  .rename_i h;simp only[aq];exact⟨by simp[Mm.upto,h,e.1],e.2⟩
  .simp only[aq];rw[e.2];rfl
 | .gs id k,_,e=>by
  simp only[V.cl];simp only[aq] at e;split
  .rename_i h;simp only[aq];exact⟨by simp[Mm.upto,h,e.1],e.2⟩
  .simp only[aq];obtain⟨_,d,rfl,_⟩:=e;rfl
 | .ptr id l,_,e=>by
  simp only[V.cl];simp only[aq] at e;split
  .rename_i h;simp only[aq];exact⟨by simp[Mm.upto,h,e.1],e.2⟩
  .simp only[aq];rw[e.2];rfl
 | .rs id l k _,_,e=>by
  simp only[V.cl];simp only[aq] at e;split
  .rename_i h;simp only[aq];exact⟨by simp[Mm.upto,h,e.1],e.2⟩
  .simp only[aq];obtain⟨_,d,rfl,_⟩:=e;rfl
 | .cptr m,_,e=>by
  simp only[V.cl,aq] at e |-;obtain⟨p,b,o,g,e⟩:=e
  exact⟨p,b,o,g,fj.upto n p e⟩
 | .vs s tk,_,e=>by
  simp only[V.cl,aq] at e |-;obtain⟨p,a,d,g,i,j,q⟩:=e;refine⟨p,a,d,g,i,?_,q.upto⟩
  cases a with
  | none=>exact j
  | some t=>exact⟨j.1,j.2.1,fV.upto n p j.2.2⟩
 | .fn f d,_,e=>by
  simp only[V.cl,aq] at e |-;obtain⟨xs,g,e⟩:=e
  exact⟨xs,g,ai.upto n e⟩
 | .agg m,_,e=>by
  simp only[V.cl,aq] at e |-;obtain⟨p,xs,g,e⟩:=e;refine⟨λc i=>?_,xs,g,ai.upto n e⟩;rw[iW,aaW] at i;obtain⟨c',r,rfl⟩:=i
  exact V.qk n c' (p c' r)
 | .bf m,_,e=>by
  simp only[V.cl,aq] at e |-;obtain⟨xs,g,e⟩:=e;exact⟨xs,g,ai.upto n e⟩
def ai.upto(n:Nat):∀{cs:List V} {xs:List Value},ai M w cs xs->ai (M.upto n) w (a_ n cs) xs
 | [],_,e=>by simpa only[a_,ai] using e
 | c::cs,_,e=>by
  simp only[a_,ai] at e |-;obtain⟨x,a,b,d,f⟩:=e;exact⟨x,a,b,aq.upto n d,ai.upto n f⟩
def fj.upto(n:Nat){b:Nat}:∀{cs:List V} {o:Nat},(∀c∈cs,c.pure=true)->fj M w b cs o->fj (M.upto n) w b cs o
 | [],_,_,_=>by simp only[fj]
 | c::cs,o,p,e=>by
  simp only[fj] at e |-;obtain⟨⟨x,a,rd,f⟩,g⟩:=e;refine⟨⟨x,a,rd,?_⟩,fj.upto n (λd hd=>p d (by simp[hd])) g⟩;have:=aq.upto n f;rwa[V.qm n c (p c ir)] at this
def fV.upto(n:Nat){b:Nat}:∀{es:List (List V)} {o:Nat},(∀e∈es,∀c∈e,c.pure=true)->fV M w b es o->fV (M.upto n) w b es o
 | [],_,_,_=>by simp only[fV]
 | e::es,o,p,k=>by
  simp only[fV] at k |-;exact⟨fj.upto n (p e ir) k.1,fV.upto n (λd hd=>p d (by simp[hd])) k.2⟩
end
def Re(n:Nat)(H:ae)(i:Nat):(ak n H)[i]?=if i<n then(H[i]?).map (abF (az.cl n)) else none:=by
 unfold ak;rw[aaL,aap]
 split<;>simp
def zy8(M:Mm)(H:ae)(n i b:Nat)(h:aV (M.upto n) (ak n H) i=some b):aV M H i=some b:=by
 unfold aV at h |-;rw[Re] at h
 by_cases hi:i<n
 .rw[if_pos hi] at h
  cases a:H[i]? with
  | none=>simp[a] at h
  | some o=>cases o with
   | none=>simp[a] at h
   | some c=>cases c<;>simpa[a,az.cl,Mm.upto] using h
 .rw[if_neg hi] at h;cases h
def Av(A:aG M w H)(n:Nat):ez M H w (M.upto n) (ak n H) w/\eQ M (M.upto n) n/\aG (M.upto n) w (ak n H):=by
 have iv:=zy8 M H n
 have C:ez M H w (M.upto n) (ak n H) w :=
  { ez.refl M H w with
   nY:=λ_ _ h=>h
   jq:=λ_ l _ h=>⟨l,h,aaf _⟩
   limo:=λ_ _ _=>rfl
   own:=λb _ J=>by obtain⟨i,hi⟩:=J;exact⟨i,iv i b hi⟩
   fm:=rfl }
 have y:∀u:List V,(∀c∈u,c.fg=true)->∀c∈a_ n u,c.fg=true:=λu a v z=>by
  rw[iW,aaW] at z;obtain⟨c',B,rfl⟩:=z;exact V.qk n c' (a c' B)
 refine⟨C,λi hi K=>⟨by simp[Mm.upto,hi,K],rfl,vb.refl _⟩,⟨λi=>?_,λi D j=>?_,λi G b E F=>A.inj i G b (iv i b E) (iv G b F),λg u L=>?_⟩⟩
 .rw[Re]
  by_cases hi:i<n
  .simp only[Mm.upto,hi,decide_true,Bool.true_and,if_true];rw[A.rE i];constructor
   .rintro⟨D,j⟩;exact⟨D.cl n,by simp[j]⟩
   .rintro⟨D,j⟩
    cases x:H[i]? with
    | none=>simp[x] at j
    | some o=>cases o with
     | none=>simp[x] at j
     | some b=>exact⟨b,rfl⟩
  .simp[Mm.upto,hi]
 .rw[Re] at j;split at j
  .rename_i hi
   cases x:H[i]? with
   | none=>simp[x] at j
   | some o=>cases o with
    | none=>simp[x] at j
    | some I =>
     simp only[x,aa4,aab.injEq] at j;subst j;have m:=A.rel i I x
     cases I with
     | cells u =>
      simp only[aK,az.cl] at m |-;obtain⟨a,b,xs,e,c,d⟩:=m
      exact⟨y u a,b,xs,e,c,by rw[iW,aaK,<-iW];exact ai.upto n d⟩
     | grow u X Y =>
      simp only[aK,az.cl] at m |-;obtain⟨a,b,N,O,xs,e,c,s,d,P⟩:=m
      exact⟨y u a,b,N,O,xs,e,c,s,by rw[iW,aaK,<-iW];exact ai.upto n d,by rw[iW,aaK];exact P⟩
     | zone k=>simpa only[aK,az.cl,Mm.upto] using m
     | jo u =>
      simp only[aK,az.cl] at m |-;obtain⟨a,b,xs,e,c,d⟩:=m;refine⟨λv z=>?_,by rw[iW,aaK];exact b,xs,e,c,by rw[iW,aaK,<-iW];exact ai.upto n d⟩;rw[iW,aaW] at z;obtain⟨c',B,rfl⟩:=z
      rw[V.qm n c' (a c' B)];exact a c' B
     | map Z =>
      simp only[aK,az.cl] at m |-;obtain⟨b,ents,c,d,d',f⟩:=m;refine⟨b,ents,by rw[aaK];exact c,?_,?_,f⟩
      .have:=ai.upto n d;rw[iW,abg] at this;rw[abg];exact this
      .have:=ai.upto n d';rw[iW,abg] at this
       rw[abg];exact this
     | dF t pos=>simpa only[aK,az.cl,Mm.upto] using m
     | loop e0 ps as bo st =>
      simp only[aK,az.cl] at m |-;obtain⟨a,r,Q,E,F,R,S,T⟩:=m;refine⟨a,r,Q,E,F,R,S,λp U=>?_⟩;obtain⟨q,W,rfl⟩:=aaW.1 U;exact aq.upto n (T q W)
  .cases j
 .have:=aq.upto n (A.oI g u L);simpa only[V.cl] using this
open Go Go.RowKit
variable {P:Program} {M M':Mm} {H H1:ae} {w w':World}
def tF:Value->V->Bool
 | .int k n,.int a c=>k==a&&n==c
 | .bool b,.bool d=>b==d
 | .string s,.str s'=>decide (s.data.toList=s')
 | .pointer none,.nilp=>true
 | .slice none 0 0,.vs [] .full=>true
 | .nilFunc,.nilf=>true
 | .map none,.nilm=>true
 | _,_=>false
def r7:List Value->List V->Bool
 | [],[]=>true
 | x::xs,c::a=>tF x c&&r7 xs a
 | _,_=>false
def Hw:Value->V->Bool
 | .agg xs,.agg a=>r7 xs.toList a
 | x,c=>tF x c
def Rh{x:Value}{c:V}(h:tF x c=true):aq M w c x:=by
 unfold tF at h
 split at h<;>(try simp only[aas,aam,beq_iff_eq,decide_eq_true_eq] at h)
 .obtain⟨rfl,rfl⟩:=h;simp only[aq]
 .subst h;simp only[aq]
 .subst h;simp only[aq]
 .simp only[aq]
 .simp only[aq];exact⟨ir,none,0,rfl,aaf _,ir,by simp[lY]⟩
 .simp only[aq]
 .simp only[aq]
def zy9{x:Value}{c:V}(h:tF x c=true):c.pure=true:=by
 unfold tF at h
 split at h<;>first|rfl|simp at h
def Fc:∀{xs:List Value} {cs:List V},r7 xs cs=true->ai M w cs xs
 | [],[],_=>by simp only[ai]
 | [],_::_,h=>by simp[r7] at h
 | _::_,[],h=>by simp[r7] at h
 | x::xs,c::cs,h=>by
  simp only[r7,aam] at h;simp only[ai];exact⟨x,xs,rfl,Rh h.1,Fc h.2⟩
def Hx:∀{xs:List Value} {cs:List V},r7 xs cs=true->∀c∈cs,c.pure=true
 | [],[],_=>by simp
 | [],_::_,h=>by simp[r7] at h
 | _::_,[],h=>by simp[r7] at h
 | x::xs,c::cs,h=>by
  simp only[r7,aam] at h;intro d hd;simp only[abK] at hd
  rcases hd with rfl|hd
  .exact zy9 h.1
  .exact Hx h.2 d hd
def zBL{x:Value}{c:V}(h:Hw x c=true):aq M w c x:=by
 unfold Hw at h;split at h
 .rename_i xs b;simp only[aq];exact⟨λc a=>V.bZ (Hx h c a),xs.toList,ir,Fc h⟩
 .exact Rh h
def zBM{a b:V}(h:a.eqc b=some true):a=b:=by
 cases a<;>cases b<;>simp only[V.eqc,reduceCtorEq,aab.injEq] at h
 .split at h
  .rename_i c;subst c;simp at h;subst h;rfl
  .cases h
 .simp at h;subst h;rfl
 .simp at h;subst h;rfl
def zsJ:∀{as c:List V},yS as c=some true->as=c
 | [],[],_=>rfl
 | [],_::_,h=>by simp[yS] at h
 | _::_,[],h=>by simp[yS] at h
 | a::as,b::c,h=>by
  simp only[yS] at h;split at h
  .rename_i x y d e;simp only[aab.injEq,aam] at h;obtain⟨rfl,rfl⟩:=h;rw[zBM d,zsJ e]
  .cases h
def aH(fm:Fm):Operand->X->Bool
 | .tmp t,.t i=>t==i
 | .const v,.c c=>Hw v c
 | .func f,.c (.fn a [])=>f==fm a
 | .global g,.c (.cptr b)=>match fm.gl g with|some ds=>yS ds b==some true|none=>false
 | _,_=>false
structure bj (M:Mm) (w:World) (e:Env) (a:Act) (n:Nat):Prop where
 size:a.tmps.size=n
 defers:a.defers.Nodup/\∀d∈a.defers,∃D,d={ target:=.collected D,args:=#[] }/\w.heap[D]?=some (.deferred (some []))
 rel:∀i,aq M w (e i) (a.tmps.getD i undef)
 oI:B6 M w
def fy{e:Env}{a:Act}{n:Nat}{o:Operand}{x:X}(h:aH M.fm o x=true)(b:bj M w e a n):aq M w (x.ev e) (a.eval o):=by
 unfold aH at h
 split at h<;>(try simp only[beq_iff_eq,aas] at h)
 .subst h;exact b.rel _
 .exact zBL h
 .subst h;simp only[X.ev,aq,Act.eval];exact⟨[],rfl,by simp only[ai]⟩
 .split at h
  .rename_i ds hd;have:=zsJ (by simpa using h);subst this;exact b.oI _ _ hd
  .cases h
def pZ(fm:Fm):List Operand->List X->Bool
 | [],[]=>true
 | o::a,x::xs=>aH fm o x&&pZ fm a xs
 | _,_=>false
def Dq{e:Env}{a:Act}{n:Nat}:∀{os:List Operand} {xs:List X},pZ M.fm os xs=true->bj M w e a n->ai M w (xs.map (X.ev e)) (os.map a.eval)
 | [],[],_,_=>by simp only[abx,ai]
 | [],_::_,h,_=>by simp[pZ] at h
 | _::_,[],h,_=>by simp[pZ] at h
 | o::os,x::xs,h,b=>by
  simp only[pZ,aam] at h;simp only[aa0,ai];exact⟨_,_,rfl,fy h.1 b,Dq h.2 b⟩
def n8(fm:Fm):Option Operand->Option X->Bool
 | none,none=>true
 | some o,some x=>aH fm o x
 | _,_=>false
def g_(P:Program)(t:TypeId)(sz:Nat)(a:Bool):Bool :=
 match P.underlying t,P.info? t with
 | some d,some i=>i.size==sz&&(if d.isRow then a else !a&&sz==1)
 | _,_=>false
def WZ{c:V}{x:Value}{cs:List V}(h:aq M w c x)(a:c.cells?=some cs):ai M w cs x.cells.toList/\∀d∈cs,d.fg=true:=by
 cases c<;>simp only[V.cells?,aab.injEq,reduceCtorEq] at a<;>subst a
 case agg cs=>simp only[aq] at h;obtain⟨p,xs,rfl,h⟩:=h;exact⟨by simpa[Value.cells] using h,p⟩
 all_goals
  have b:=WN h rfl;refine⟨?_,by simp[V.fg]⟩
  have:x.cells=#[x]:=by cases x<;>simp_all [Value.cells,Value.oneCell']
  rw[this];simp only[ai];exact⟨x,[],rfl,h,rfl⟩
def cY(P:Program)(o:Oper)(a:Act)(M:Mm)(H:ae)(w:World)(v:V)(H1:ae):Prop :=
 ∃n w' M',(execOp a.eval o).run P w=.ok n w'/\(match n with|.value rv=>aq M' w' v rv|.skip=>v=.undef|_=>False) /\
  ez M H w M' H1 w'/\eQ M M' H.length/\aG M' w' H1
def cY.plain{o:Oper}{a:Act}{v:V}{rv:Value}(b:aG M w H)(h:(execOp a.eval o).run P w=.ok (.value rv) w)(c:aq M w v rv):cY P o a M H w v H :=
 ⟨_,w,M,h,c,ez.refl M H w,eQ.refl _ _,b⟩
section
variable {e:Env} {a:Act} {n:Nat} {o:Oper} {v:V}
def zDj{x:Operand}{c:X}(b:o.op=.move x\/o.op=.assign x)(d:aH M.fm x c=true)(f:bj M w e a n)(g:aG M w H):cY P o a M H w (c.ev e) H:=by
 refine .plain (rv:=a.eval x) g ?_ (fy d f)
 rcases b with b|b<;>simp[execOp,b]
def zEd{c x y:Operand}{sc f g:X}(i:o.op=.pick c x y)(j:aH M.fm c sc=true)(k:aH M.fm x f=true)(l:aH M.fm y g=true)(d:bj M w e a n)(m:aG M w H)
  {b:Bool} (p:sc.ev e=.bool b):cY P o a M H w (if b then f.ev e else g.ev e) H:=by
 have h:=fy j d;rw[p] at h;simp only[aq] at h;refine .plain (rv:=if b then a.eval x else a.eval y) m ?_ (by cases b<;>simp[fy k d,fy l d])
 cases b<;>simp[execOp,i,h,asBool]
def zFu{t:TypeId}{x:Operand}{b:X}{id:Nat}{cs:List V}(c:o.op=.box t x)(d:aH M.fm x b=true)(f:bj M w e a n)(g:aG M w H)
  (h:(b.ev e).cells?=some cs) (j:k8 H id=true):cY P o a M H w (.ptr id 0) (H.set id (some (.cells cs))):=by
 obtain⟨k,l⟩:=WZ (fy d f) h;obtain⟨s,i,r⟩:=Ra (t:=t) g j k l;refine⟨.value (.pointer (some ⟨w.heap.size,0,none⟩)),_,_,?_,?_,s,i,r⟩
 .simp[execOp,c,Instr.box,newVar,newRow]
 .simp only[aq,Mm.iL,decide_true,aaI,if_true,true_and]
def zBN{t:TypeId}{id:Nat}{z:List V}{i:TypeInfo}{b:Value}(e:o.op=.alloc t)(hi:P.info? t=some i)(f:i.zero=some b)(d:r7 b.cells.toList z=true)
  (g:aG M w H) (h:k8 H id=true):cY P o a M H w (.ptr id 0) (H.set id (some (.cells z))):=by
 obtain⟨s,j,r⟩:=Ra (t:=t) (xs:=b.cells) g h (Fc (M:=M) (w:=w) d) (λc k=>V.bZ (Hx d c k));refine⟨.value (.pointer (some ⟨w.heap.size,0,none⟩)),_,_,?_,?_,s,j,r⟩
 .simp[execOp,e,Instr.alloc,zeroValue,typeInfo,hi,f,newVar,newRow]
 .simp only[aq,Mm.iL,decide_true,aaI,if_true,true_and]
def oW(a:Bool)(xs:List Value):Value:=if a then .agg xs.toArray else xs.headD undef
def MK{b:Bool}{cs:List V}{xs:List Value}(a:mk b cs=some v)(d:ai M w cs xs)(e:∀c∈cs,c.fg=true):aq M w v (oW b xs):=by
 unfold mk at a
 cases b with
 | true=>simp only[if_true,aab.injEq] at a;subst a;simp only[aq,oW,if_true];exact⟨e,xs,rfl,d⟩
 | false =>
  simp only[aas,if_false] at a;split at a
  .simp only[aab.injEq] at a;subst a;simp only[ai] at d;obtain⟨x,f,rfl,h,rfl⟩:=d;simpa[oW] using h
  .cases a
def W2{t:TypeId}{sz:Nat}{e:Bool}{b off:Nat}{xs:List Value}(a:g_ P t sz e=true)(f:xs.length=sz)(c:w.rangeAt b off xs) :
  (Instr.loadAt t (.pointer (some ⟨b,off,none⟩))).run P w=.ok (oW e xs) w:=by
 unfold g_ at a;split at a
 .rename_i d i g hi;simp only[aam,beq_iff_eq] at a;obtain⟨j,a⟩:=a
  by_cases hd:d.isRow=true
  .rw[if_pos hd] at a;subst a;simp only[oW,if_true];exact run_loadAt_mid w b off t xs d c g hd (by rw[hi];simp[j,f])
  .rw[if_neg hd] at a;simp only[aam,abB,beq_iff_eq] at a;obtain⟨rfl,rfl⟩:=a
   match xs,f,c with
   | [x],_,c =>
    have h:=c 0 x rfl;simp only[aa9] at h
    have k:(isAgg t).run P w=.ok false w:=by
     unfold isAgg;rw[Sem.run_bind,run_underlying g w]
     cases d<;>simp_all [TypeDesc.isRow]
    simp[Instr.loadAt,Instr.sureAddr,loadVar,k,oW,load,Sem.run,h]
 .cases a
def znA{b off:Nat}{cs:List V}(h:fj M w b cs off):∃xs:List Value,ai M w cs xs/\w.rangeAt b off xs:=by
 induction cs generalizing off with
 | nil=>exact⟨[],by simp only[ai],λj v a=>by simp at a⟩
 | cons c cs d =>
  simp only[fj] at h;obtain⟨⟨x,e,_,f⟩,h⟩:=h;obtain⟨xs,g,i⟩:=d h;refine⟨x::xs,by simp only[ai];exact⟨x,xs,rfl,f,g⟩,λj v a=>?_⟩
  cases j with
  | zero=>simp at a;subst a;simpa using e
  | succ j=>simp at a;have:=i j v a;rw[show off+1+j=off+(j+1) by omega] at this;exact this
def zvZ{b off k:Nat}{cs:List V}(h:fj M w b cs off):fj M w b (cs.take k) off:=by
 refine Dl λi c a=>?_;rw[aap] at a;split at a
 .exact WL h a
 .cases a
def zpj{b off k:Nat}{cs:List V}(h:fj M w b cs off):fj M w b (cs.drop k) (off+k):=by refine Dl λi c a=>?_;rw[aaV] at a;have:=WL h a;rw[show off+(k+i)=off+k+i by omega] at this;exact this
def Ri{t:TypeId}{x:Operand}{y:X}{base sz:Nat}{i old:Bool}(z:o.op=.load t x)(E:aH M.fm x y=true)(A:g_ P t sz i=true)(F:bj M w e a n)(l:aG M w H)
  (d:aX base e H (.load sz i old y)=some (v,H1)):cY P o a M H w v H1:=by
 have g:=fy E F;simp only[aX] at d;split at d
 .rename_i id off m;split at d
  .cases d
  .split at d
   .rename_i p G;split at d
    .rename_i q;rw[aaj] at d;obtain⟨I,r,d⟩:=d;cases d;rw[m] at g;simp only[aq] at g;have B:=l.rel id _ G;simp only[aK] at B;obtain⟨J,_,xs,K,L,C⟩:=B;have h:=gQ C;refine .plain (rv:=oW i (((xs.toList.take p.length).drop off).take sz)) l ?_ (MK r (v5 (x7 C off) sz) (λc s=>J c (aai (aag s))))
     have:=W2 (P:=P) (w:=w) (b:=M.j id) (off:=off) (xs:=((xs.toList.take p.length).drop off).take sz) A (by rw[aae,aar,h];omega) (λj u f=>by
      rw[aap] at f;split at f
      .rw[aaV,aap] at f;split at f
       .rw[cell_of_row w (M.j id) (off+j) xs K (0,0) L];simpa using f
       .cases f
      .cases f)
     simp[execOp,z,g.2,this]
    .cases d
   .cases d
 .rename_i p m;split at d
  .rename_i q;rw[aaj] at d;obtain⟨I,r,d⟩:=d;cases d;rw[m] at g;simp only[aq] at g;obtain⟨N,b,off,O,Q⟩:=g;obtain⟨xs,D,R⟩:=znA (zvZ (k:=sz) Q);refine .plain (rv:=oW i xs) l ?_ (MK r D (λc s=>V.bZ (N c (aag s))));have:=W2 (P:=P) (w:=w) A (by rw[gQ D];simp;omega) R;simp[execOp,z,O,this]
  .cases d
 .cases d
def Rj{xs:Array Value}{k i:Nat}{x:Value}(h:(xs.toList.take k)[i]?=some x):xs[i]?=some x:=by
 rw[aap] at h;split at h
 .simpa using h
 .cases h
def zqx{l n:List Value}{k off:Nat}(j:k<=l.length)(h:off+n.length<=k) :
  (l.take off++n++l.drop (off+n.length)).take k=(l.take k).take off++n++(l.take k).drop (off+n.length):=by
 have d:(l.take k).length=k:=by rw[aae];omega
 obtain⟨a,c⟩:=ax (l.take k);obtain⟨b,e⟩:=ax (l.drop k)
 have f:l=a++b:=by rw[c,e,aaM]
 rw[<-c] at d |-;have g:(a++b).take off=a.take off:=List.take_append_of_le_length an;have i:(a++b).drop (off+n.length)=a.drop (off+n.length)++b:=List.drop_append_of_le_length an;rw[f,g,i,<-abb];refine List.take_left' ?_;simp only[aaq,aae,aar];omega
def Rk{t:TypeId}{x y:Operand}{A B:X}{base sz:Nat}(O:o.op=.store t x y)(Q:aH M.fm x A=true)(R:aH M.fm y B=true)(hi:(P.info? t).map (·.size)=some sz)
  (C:bj M w e a n) (D:aG M w H) (d:aX base e H (.store sz A B)=some (v,H1)):cY P o a M H w v H1:=by
 have p:=fy Q C;simp only[aX] at d;split at d
 .rename_i id b ds S T;split at d
  .rename_i g E;split at d
   .rename_i h;cases d;rw[S] at p;simp only[aq] at p;have F:=D.rel id _ E;simp only[aK] at F;obtain⟨G,_,xs,U,I,q⟩:=F;have k:=gQ q;obtain⟨hd,J⟩:=WZ (fy R C) T;have l:=gQ hd
    have V:∀u∈(a.eval y).cells.toList,u.oneCell'=true:=by
     intro u W;obtain⟨i,hi⟩:=abv W
     have K:i<ds.length:=by rw[<-l];exact(aad.1 hi).1
     obtain⟨x',L,Y⟩:=nZ hd (abh K);rw[hi] at L;cases L;exact WN Y (J _ (abi K))
    have N:g.length<=xs.toList.length:=by rw[aae] at k;omega
    have Z:g.length<=xs.size:=by simpa using N
    have m:=run_storeCells_at P (M.j id) b U (a.eval y).cells.toList 0 xs w I (by rw[l];omega) V;simp only[aa9] at m
    obtain⟨s,ii,r⟩:=WT (ds:=g.take b++ds++g.drop (b+sz)) D E I (ys:=(xs.toList.take b++(a.eval y).cells.toList++xs.toList.drop (b+(a.eval y).cells.toList.length)).toArray)
     (by
      rw[show(g.take b++ds++g.drop (b+sz)).length=g.length by simp only[aaq,aae,aar];omega];simp only[];rw[zqx N (by rw[l];omega)];refine yR (yR (v5 q b) hd) ?_;rw[l,h.1]
      exact x7 q _)
     (λc f=>by
      simp only[aaQ] at f
      rcases f with(f|f)|f
      .exact G c (aag f)
      .exact J c f
      .exact G c (aai f))
    refine⟨.skip,_,_,?_,rfl,s,ii,r⟩
    have dh:(a.eval y).cells.size=sz:=by rw[<-aat,l,h.1]
    cases z:P.info? t with
    | none=>simp[z] at hi
    | some i =>
     have nb:i.size=sz:=by simpa[z] using hi
     have W4:(storeVar t ⟨M.j id,b,none⟩ (a.eval y)).run P w=(storeCells ⟨M.j id,b,none⟩ (a.eval y).cells.toList 0).run P w:=by simp[storeVar,sizeOf,typeInfo,z,nb,dh]
     simp only[execOp,O,Instr.storeAt,p.2,Instr.sureAddr,Sem.run_bind,Sem.run_pure,Result.andThen_ok,W4,m]
   .cases d
  .cases d
 .cases d
end
open Go Go.RowKit
variable {P:Program} {M M':Mm} {H H1:ae} {w w':World}
variable {e:Env} {a:Act} {n:Nat} {o:Oper} {v:V}
def zsK{t:TypeId}{d:TypeDesc}(a:P.underlying t=some d):(isAgg t).run P w=.ok d.isRow w:=by
 unfold isAgg;rw[Sem.run_bind,run_underlying a w]
 cases d<;>simp[TypeDesc.isRow]
def W5{t:TypeId}{sz off:Nat}{b:Bool}{xs:Array Value}(a:g_ P t sz b=true)(g:off+sz<=xs.size) :
  (part t xs off).run P w=.ok (oW b ((xs.toList.drop off).take sz)) w:=by
 unfold g_ at a;split at a
 .rename_i d i c hi;simp only[aam,beq_iff_eq] at a;obtain⟨f,a⟩:=a
  by_cases hd:d.isRow=true
  .rw[if_pos hd] at a;subst a
   have:xs.extract off (off+sz)=((xs.toList.drop off).take sz).toArray:=by apply abG;simp[Array.toList_extract,List.extract_eq_take_drop]
   simp[part,zsK c,hd,sizeOf,typeInfo,hi,f,oW,this]
  .rw[if_neg hd] at a;simp only[aam,abB,beq_iff_eq] at a;obtain⟨rfl,rfl⟩:=a
   have e:off<xs.size:=an
   have:(xs.toList.drop off).take 1=[xs[off]]:=by rw[List.drop_eq_getElem_cons (by simpa using e)];simp
   simp[part,zsK c,hd,e,oW,this]
 .cases a
def J1(P:Program)(t:TypeId)(f:Nat)(off:Nat):Option TypeId :=
 match P.underlying t with
 | some (.struct b)=>match b[f]? with
  | some a=>if a.offset=off then some a.type else none
  | none=>none
 | _=>none
def zBO{t:TypeId}{x:Operand}{l:X}{f base off ft:Nat}{i:TypeInfo}(q:o.op=.fieldAddr t x f)(r:aH M.fm x l=true)(d:J1 P t f off=some ft)
  (hi:P.info? ft=some i) (s:i.size≠0) (u:bj M w e a n) (m:aG M w H) (h:aX base e H (.pz off l)=some (v,H1)):cY P o a M H w v H1:=by
 have g:=fy r u;unfold J1 at d;split at d
 .rename_i G y;split at d
  .rename_i I z;split at d
   .rename_i A;cases d
    have p:∀b k,a.eval x=.pointer (some ⟨b,k,none⟩)->(execOp a.eval o).run P w=.ok (.value (.pointer (some ⟨b,k+off,none⟩))) w:=by intro b k B;simp[execOp,q,B,Instr.fieldAt,run_underlying y,z,Instr.sureAddr,fieldPlace,sizeOf,typeInfo,hi,s,Addr.add_lit,A]
    simp only[aX] at h;split at h
    .rename_i id k j;cases h;rw[j] at g;simp only[aq] at g;exact .plain m (p _ _ g.2) (by simp only[aq];exact⟨g.1,trivial⟩)
    .rename_i J j;cases h;rw[j] at g;simp only[aq] at g;obtain⟨C,b,k,D,E⟩:=g;exact .plain m (p _ _ D) (by simp only[aq];exact⟨λc F=>C c (aai F),b,k+off,rfl,zpj E⟩)
    .cases h
   .cases d
  .cases d
 .cases d
def zFv{t:TypeId}{x:Operand}{i:X}{f base off sz ft:Nat}{g:Bool}(l:o.op=.field t x f)(m:aH M.fm x i=true)(d:J1 P t f off=some ft)
  (p:g_ P ft sz g=true) (q:bj M w e a n) (r:aG M w H) (b:aX base e H (.Ho off sz g i)=some (v,H1)):cY P o a M H w v H1:=by
 have h:=fy m q;unfold J1 at d;split at d
 .rename_i G s;split at d
  .rename_i I u;split at d
   .rename_i y;cases d;simp only[aX] at b;split at b
    .rename_i J z;split at b
     .rename_i A;rw[aaj] at b;obtain⟨K,B,b⟩:=b;cases b;rw[z] at h;simp only[aq] at h;obtain⟨C,xs,D,j⟩:=h;have k:=gQ j;have E:=W5 (P:=P) (w:=w) (xs:=xs.toArray) (off:=off) p (by simp;omega);refine .plain (rv:=oW g ((xs.drop off).take sz)) r ?_ (MK B (v5 (x7 j off) sz) (λc F=>C c (aai (aag F))));simp[execOp,l,D,Instr.field,run_underlying s,u,asAgg,y,E]
     .cases b
    .cases b
   .cases d
  .cases d
 .cases d
def zv0{b:Nat}{es:List (List V)}{off sz:Nat}(h:fV M w b es off)(a:∀e∈es,e.length=sz){i:Nat}{c:List V}(hi:es[i]?=some c):fj M w b c (off+i*sz):=by
 induction es generalizing off i with
 | nil=>simp at hi
 | cons e es f =>
  simp only[fV] at h
  cases i with
  | zero=>simp at hi;subst hi;simpa using h.1
  | succ i =>
   simp at hi;have:=f h.2 (λd hd=>a d (by simp[hd])) hi;rw[a e ir] at this;rw[show off+sz+i*sz=off+(i+1)*sz by rw[aaG,aaZ];omega] at this;exact this
def elemOf?(P:Program)(t:TypeId):Option TypeId :=
 match P.underlying t with
 | some (.slice a)=>some a
 | _=>none
def elemOf?_some{t a:TypeId}(h:elemOf? P t=some a):P.underlying t=some (.slice a):=by
 unfold elemOf? at h;split at h
 .cases h;assumption
 .cases h
def arrOf?(P:Program)(t:TypeId):Option (Nat×TypeId) :=
 match P.underlying t with
 | some (.array k a)=>some (k,a)
 | _=>none
def arrOf?_some{t a:TypeId}{k:Nat}(h:arrOf? P t=some (k,a)):P.underlying t=some (.array k a):=by
 unfold arrOf? at h;split at h
 .cases h;assumption
 .cases h
def zBP{t:TypeId}{x y:Operand}{C D:X}{base sz E:Nat}{i:TypeInfo}(R:o.op=.indexAddr t x y)(S:aH M.fm x C=true)(T:aH M.fm y D=true)(U:elemOf? P t=some E)
  (hi:P.info? E=some i) (V:i.size=sz) (F:bj M w e a n) (G:aG M w H) (b:aX base e H (.qN sz C D)=some (v,H1)):cY P o a M H w v H1:=by
 have h:=fy S F;have l:=fy T F;have W:=elemOf?_some U
 have I:∀(f:Addr) (g d:Nat) (k:IntKind) (j:Int),a.eval x=.slice (some f) g d->a.eval y=.int k j->0<=j->j<g ->
   (execOp a.eval o).run P w=.ok (.value (.pointer (some (f.add (j.toNat*sz))))) w:=by
  intro f g d k j Y Z h3 h4;simp[execOp,R,Y,Z,Instr.indexAt,run_underlying W,asIntOf,h3,h4,sizeOf,typeInfo,hi,V]
 simp only[aX] at b;split at b
 .rename_i es tk k j u z;split at b
  .rename_i m;split at b
   .rename_i J p;split at b
    .rename_i q;cases b;rw[u] at h;rw[z] at l;simp only[aq] at h l;obtain⟨lK,f,d,A,B,r,_⟩:=h;have aj:=(aad.1 p).1
     cases f with
     | none=>obtain⟨rfl,_⟩:=r;simp at p
     | some f =>
      obtain⟨s,⟨K,L⟩,r⟩:=r;have N:=List.mem_of_getElem? p
      have:K=sz:=by rw[<-L J N,q]
      subst this;obtain⟨O,Q,hb⟩:=f;simp only at s r;have s:=s.resolve_left (λm=>by rw[m] at p;simp at p);subst s;refine .plain G (I ⟨O,Q,none⟩ es.length d k j A l m an) ?_;simp only[aq,Addr.add_lit];exact⟨λc hc=>lK J N c hc,O,Q+j.toNat*K,rfl,zv0 r L p⟩
    .cases b
   .cases b
  .cases b
 .rename_i id he k hf kk j u z;split at b
  .rename_i m;cases b;rw[u] at h;rw[z] at l;simp only[aq] at h l;obtain⟨ha,d,A,B⟩:=h;refine .plain G (I _ _ d _ j A l m.1 m.2) ?_;simp only[aq,Addr.add_lit];exact⟨ha,trivial⟩
  .cases b
 .cases b
def zza{t:TypeId}{x y:Operand}{q r:X}{base sz s len:Nat}{i:TypeInfo}(B:o.op=.indexAddr t x y)(C:aH M.fm x q=true)(D:aH M.fm y r=true)(E:arrOf? P t=some (len,s))
  (hi:P.info? s=some i) (F:i.size=sz) (u:bj M w e a n) (z:aG M w H) (d:aX base e H (.mQ len sz q r)=some (v,H1)):cY P o a M H w v H1:=by
 have f:=fy C u;have g:=fy D u;have G:=arrOf?_some E
 have A:∀(b l:Nat) (k:IntKind) (j:Int),a.eval x=.pointer (some ⟨b,l,none⟩)->a.eval y=.int k j->0<=j->j<len ->
   (execOp a.eval o).run P w=.ok (.value (.pointer (some ⟨b,l+j.toNat*sz,none⟩))) w:=by
  intro b l k j I J K L;simp[execOp,B,I,J,Instr.indexAt,run_underlying G,asIntOf,K,L,sizeOf,typeInfo,hi,F,Instr.sureAddr,Addr.add_lit]
 simp only[aX] at d;split at d
 .rename_i id N k j m p;split at d
  .rename_i h;cases d;rw[m] at f;rw[p] at g;simp only[aq] at f g;exact .plain z (A _ _ _ j f.2 g h.1 h.2) (by simp only[aq];exact⟨f.1,trivial⟩)
  .cases d
 .rename_i T k j m p;split at d
  .rename_i h;cases d;rw[m] at f;rw[p] at g;simp only[aq] at f g;obtain⟨O,b,l,Q,R⟩:=f;exact .plain z (A _ _ _ j Q g h.1 h.2) (by simp only[aq];exact⟨λc S=>O c (aai S),b,_,rfl,zpj R⟩)
  .cases d
 .cases d
def zFw{t:TypeId}{x y:Operand}{q r:X}{base sz g len:Nat}{h:Bool}(B:o.op=.index t x y)(C:aH M.fm x q=true)(D:aH M.fm y r=true)(E:arrOf? P t=some (len,g))
  (f:g_ P g sz h=true) (s:bj M w e a n) (F:aG M w H) (b:aX base e H (.idx len sz h q r)=some (v,H1)):cY P o a M H w v H1:=by
 have l:=fy C s;have m:=fy D s;have G:=arrOf?_some E;simp only[aX] at b;split at b
 .rename_i R k j I J;split at b
  .rename_i u;rw[aaj] at b;obtain⟨S,K,b⟩:=b;cases b;rw[I] at l;rw[J] at m;simp only[aq] at l m;obtain⟨L,xs,N,z⟩:=l;have A:=gQ z;have O:=W5 (P:=P) (w:=w) (xs:=xs.toArray) (off:=j.toNat*sz) f (by simp;omega)
   have p:∃i,P.info? g=some i/\i.size=sz:=by
    unfold g_ at f;split at f
    .rename_i d i _ hi;simp only[aam,beq_iff_eq] at f;exact⟨i,hi,f.1⟩
    .cases f
   obtain⟨i,hi,p⟩:=p;refine .plain (rv:=oW h ((xs.drop (j.toNat*sz)).take sz)) F ?_ (MK K (v5 (x7 z _) sz) (λc Q=>L c (aai (aag Q))));simp[execOp,B,N,m,Instr.index,asIntOf,run_underlying G,u.1,u.2.1,sizeOf,typeInfo,hi,p,O]
  .cases b
 .cases b
def valOf:V->Value
 | .int k n=>.int k n
 | .bool b=>.bool b
 | .str s=>.string ⟨s.toArray⟩
 | _=>undef
def zgA(s:List UInt8):(ByteArray.mk s.toArray).size=s.length:=by simp[ByteArray.size]
def zFx{f L:TypeId}{x y:Operand}{F G:X}{base:Nat}{op:BinOp}(I:o.op=.binOp op f x y L)(N:aH M.fm x F=true)(O:aH M.fm y G=true)
  (J:bj M w e a n) (K:aG M w H) (h:aX base e H (.bin op F G)=some (v,H1)):cY P o a M H w v H1:=by
 have i:=fy N J;have j:=fy O J;simp only[aX] at h;rw[aaj] at h;obtain⟨d,b,h⟩:=h;simp only[abV.injEq] at h;obtain⟨rfl,rfl⟩:=h;unfold WQ at b;split at b
 .rename_i k p l q m r;rw[m] at i;rw[r] at j;simp only[aq] at i j
  have z:∀w,(eqGuard op f x y (.int k p) (.int l q)).run P w=.ok () w:=by intro w;unfold eqGuard;cases op<;>simp
  have g:(execOp a.eval o).run P w=((binOp op f (.int k p) (.int l q)).run P w).andThen λu w'=>.ok (.value u) w':=by
   simp only[execOp,I,i,j,Sem.run_bind,z,Result.andThen_ok]
   cases(binOp op f (.int k p) (.int l q)).run P w<;>simp[Result.andThen]
  have c:(binOp op f (.int k p) (.int l q)).run P w=.ok (valOf d) w->aq M w d (valOf d)->cY P o a M H w d H:=by intro A B;refine .plain (rv:=valOf d) K ?_ B;rw[g,A];rfl
  cases op<;>simp only at b
  case shl|shr =>
   split at b
   .cases b
   .rename_i C;simp only[aab.injEq] at b;subst b;refine c ?_ (by simp only[aq,valOf]);simp[binOp,Op.shift,C,valOf,je,jI]
  case quo|rem =>
   split at b
   .rename_i D;subst D;split at b
    .cases b
    .rename_i C;simp only[aab.injEq] at b;subst b;refine c ?_ (by simp only[aq,valOf]);simp[binOp,Op.intDiv,C,valOf,gH,iu]
   .cases b
  all_goals
   split at b
   .rename_i D;subst D;simp only[aab.injEq] at b;subst b;refine c ?_ (by simp only[aq,valOf]);simp[binOp,Op.intArith,Op.intBits,Op.intCmp,valOf,aB,cL,da,jJ,uI,uM,JZ]
   .cases b
 .rename_i s t m r;rw[m] at i;rw[r] at j;simp only[aq] at i j
  have z:∀w,(eqGuard op f x y (.string ⟨s.toArray⟩) (.string ⟨t.toArray⟩)).run P w=.ok () w:=by intro w;unfold eqGuard;cases op<;>simp
  have g:(execOp a.eval o).run P w=((binOp op f (.string ⟨s.toArray⟩) (.string ⟨t.toArray⟩)).run P w).andThen λu w'=>.ok (.value u) w':=by
   simp only[execOp,I,i,j,Sem.run_bind,z,Result.andThen_ok]
   cases(binOp op f (.string ⟨s.toArray⟩) (.string ⟨t.toArray⟩)).run P w<;>simp[Result.andThen]
  have c:(binOp op f (.string ⟨s.toArray⟩) (.string ⟨t.toArray⟩)).run P w=.ok (valOf d) w->aq M w d (valOf d)->cY P o a M H w d H:=by intro A B;refine .plain (rv:=valOf d) K ?_ B;rw[g,A];rfl
  cases op<;>simp only[aab.injEq,reduceCtorEq] at b
  case add =>
   split at b
   .rename_i E;simp only[aab.injEq] at b;subst b;refine c ?_ (by simp only[aq,valOf]);rw[binOp_string_add,run_string_add_sum w _ _ (by rw[zgA,zgA];exact E),ByteArray.mk_append_mk,valOf]
   .cases b
  all_goals
   subst b;refine c ?_ (by simp only[aq,valOf]);simp[binOp,Op.stringOp,valOf]
 .cases b
def zFy{b m:TypeId}{x y:Operand}{g h:X}{base:Nat}{neg:Bool}(i:o.op=.binOp (if neg then .neq else .eql) b x y m)(r:aH M.fm x g=true)(s:aH M.fm y h=true)
  (j:P.underlying b=some .bool) (k:bj M w e a n) (t:aG M w H) (c:aX base e H (.beq neg g h)=some (v,H1)):cY P o a M H w v H1:=by
 have d:=fy r k;have f:=fy s k;simp only[aX] at c;split at c
 .rename_i p q u z;cases c;rw[u] at d;rw[z] at f;simp only[aq] at d f;refine .plain (rv:=.bool (if neg then !(p==q) else p==q)) t ?_ (by simp only[aq])
  have l:∀op w,(eqGuard op b x y (.bool p) (.bool q)).run P w=.ok () w:=by intro op w;unfold eqGuard;cases op<;>simp
  cases neg
  .simp only[execOp,i,d,f,Sem.run_bind,l,Result.andThen_ok,aas,if_false,run_eql_bool w b p q j];rfl
  .simp only[execOp,i,d,f,Sem.run_bind,l,Result.andThen_ok,if_true,run_neq_bool w b p q j];rfl
 .cases c
def zKo{j:TypeId}{x:Operand}{i:X}{base:Nat}{op:UnOp}(f:o.op=.unOp op j x)(l:aH M.fm x i=true)
  (m:bj M w e a n) (g:aG M w H) (d:aX base e H (.un op i)=some (v,H1)):cY P o a M H w v H1:=by
 have b:=fy l m;simp only[aX] at d;rw[aaj] at d;obtain⟨q,c,d⟩:=d;cases d;unfold Ht at c;split at c
 .rename_i k p h;rw[h] at b;simp only[aq] at b
  cases op<;>simp only[aab.injEq,reduceCtorEq] at c<;>subst c
  .refine .plain (rv:=.int k (An k p)) g ?_ (by simp only[aq]);simp[execOp,f,b,Op.unary,Op.intArith,An]
  .refine .plain (rv:=.int k (zX k p)) g ?_ (by simp only[aq]);simp[execOp,f,b,Op.unary,Op.intBits,zX]
 .rename_i p h;rw[h] at b;simp only[aq] at b
  cases op<;>simp only[aab.injEq,reduceCtorEq] at c<;>subst c
  refine .plain (rv:=.bool !p) g ?_ (by simp only[aq]);simp[execOp,f,b,Op.unary]
 .cases c
def zEe{st dt:TypeId}{x:Operand}{d:X}{base:Nat}{k:IntKind}{f:TypeDesc}(g:o.op=.convert st dt x)(h:aH M.fm x d=true)(i:P.underlying st=some f)(hd:P.underlying dt=some (.int k))
  (j:bj M w e a n) (l:aG M w H) (b:aX base e H (.conv k d)=some (v,H1)):cY P o a M H w v H1:=by
 have c:=fy h j;simp only[aX] at b;split at b
 .rename_i q p m;cases b;rw[m] at c;simp only[aq] at c;refine .plain (rv:=.int k (eO k p)) l ?_ (by simp only[aq]);simp[execOp,g,c,convert,run_underlying i,run_underlying hd,Conv.intToInt,eO]
 .cases b
def zEf{f b:Nat}{cap:Array Operand}{c:List X}(d:o.op=.makeFunc (.func f) #[] cap)(g:f=M.fm b)(h:pZ M.fm cap.toList c=true)
  (i:bj M w e a n) (j:aG M w H):cY P o a M H w (.fn b (c.map (X.ev e))) H:=by
 refine .plain (rv:=.func (.func (M.fm b)) #[] (cap.toList.map a.eval).toArray) j ?_ (by simp only[aq];exact⟨_,rfl,Dq h i⟩)
 have:(cap.toList.map a.eval).toArray=cap.map a.eval:=by apply abG;simp
 rw[this];simp[execOp,d,Instr.makeFunc,g]
def zFz{x:Operand}{d:X}{base i:Nat}(f:o.op=.extract x i)(g:aH M.fm x d=true)(h:bj M w e a n)(j:aG M w H)
  (b:aX base e H (.ext i d)=some (v,H1)):cY P o a M H w v H1:=by
 have c:=fy g h;simp only[aX] at b;split at b
 .rename_i s k;rw[aaj] at b;obtain⟨t,l,b⟩:=b;cases b;rw[k] at c;simp only[aq] at c;obtain⟨xs,m,p⟩:=c;obtain⟨y,q,r⟩:=nZ p l;refine .plain (rv:=y) j ?_ r
  have:xs.toArray[i]?=some y:=by simpa using q
  simp[execOp,f,m,Instr.extract,this]
 .cases b
def zBQ{x:Operand}{m:X}{base:Nat}(i:o.op=.nilCheck x)(p:aH M.fm x m=true)(q:bj M w e a n)(j:aG M w H)
  (g:aX base e H (.qO m)=some (v,H1)):cY P o a M H w v H1:=by
 have c:=fy p q;simp only[aX] at g;split at g
 .rename_i id k h;cases g;rw[h] at c;have d:=c;simp only[aq] at d;refine .plain (rv:=a.eval x) j ?_ c;simp[execOp,i,d.2]
 .rename_i s h;cases g;rw[h] at c;have d:=c;simp only[aq] at d;obtain⟨_,b,k,l,_⟩:=d;refine .plain (rv:=a.eval x) j ?_ c;simp[execOp,i,l]
 .rename_i f r h;cases g;rw[h] at c;have d:=c;simp only[aq] at d;obtain⟨xs,l,_⟩:=d;refine .plain (rv:=a.eval x) j ?_ c;simp[execOp,i,l]
 .cases g
def zFA{t:TypeId}{x:Operand}{m:X}{base:Nat}{st:Bool}(g:o.op=.call { callee:=.builtin .len,args:=#[x],argTypes:=#[t] })(p:aH M.fm x m=true)
  (b:if st then P.underlying t=some .string else ∃h,elemOf? P t=some h) (q:bj M w e a n) (i:aG M w H)
  (d:aX base e H (.len st m)=some (v,H1)):cY P o a M H w v H1:=by
 have c:=fy p q;simp only[aX] at d;split at d
 .rename_i r tk f;cases d;simp only[aas,if_false] at b;obtain⟨h,b⟩:=b;rw[f] at c;simp only[aq] at c;obtain⟨_,z,j,l,_⟩:=c;refine .plain (rv:=.int .i64 r.length) i ?_ (by simp only[aq]);simp[execOp,g,resolve,invoke,builtin,l,Builtin.len_,run_underlying (elemOf?_some b),goInt]
 .rename_i id u k y f;cases d;simp only[aas,if_false] at b;obtain⟨h,b⟩:=b;rw[f] at c;simp only[aq] at c;obtain⟨_,j,l,_⟩:=c;refine .plain (rv:=.int .i64 k) i ?_ (by simp only[aq]);simp[execOp,g,resolve,invoke,builtin,l,Builtin.len_,run_underlying (elemOf?_some b),goInt]
 .rename_i s f;cases d;simp only[if_true] at b;rw[f] at c;simp only[aq] at c;refine .plain (rv:=.int .i64 s.length) i ?_ (by simp only[aq]);simp[execOp,g,resolve,invoke,builtin,c,Builtin.len_,run_underlying b,goInt,zgA]
 .cases d
def J2(P:Program)(t:TypeId)(k:IntKind):Bool:=match P.underlying t with|some (.int a)=>k==a|_=>false
def J3{t:TypeId}{k:IntKind}(h:J2 P t k=true):P.underlying t=some (.int k):=by
 unfold J2 at h;split at h
 .rename_i b a;simp only[beq_iff_eq] at h;rw[h];exact a
 .cases h
def Rl(P:Program)(t:TypeId):Bool:=match P.underlying t with|some .bool=>true|_=>false
def Rm{t:TypeId}(h:Rl P t=true):P.underlying t=some .bool:=by
 unfold Rl at h;split at h
 .assumption
 .cases h
def B8(P:Program)(t:TypeId):Bool:=match P.underlying t with|some .string=>true|_=>false
def B9{t:TypeId}(h:B8 P t=true):P.underlying t=some .string:=by
 unfold B8 at h;split at h
 .assumption
 .cases h
def wY{es:List (List V)}{sz:Nat}(h:∀e∈es,e.length=sz):es.flatten.length=es.length*sz:=by
 induction es with
 | nil=>simp
 | cons e es a=>simp only[aaF,aaq,a (λd hd=>h d (by simp[hd])),h e ir,abe,aaG,aaZ];omega
def Rn{b off:Nat}{es:List (List V)}(h:fV M w b es off):∃xs:List Value,ai M w es.flatten xs/\w.rangeAt b off xs:=znA (JY.1 h)
def W6{b:Nat}{xs:List Value}:∀{es:List (List V)} {off:Nat},ai M w es.flatten xs->w.rangeAt b off xs->(∀i,i<xs.length->Rd M b (off+i))->fV M w b es off:=by intro es off d e f;rw[JY];refine Dl λi c g=>?_;obtain⟨x,a,h⟩:=nZ d g;exact⟨x,e i x a,f i (aad.1 a).1,h⟩
def zut{cs:List V}{xs:List Value}(h:ai M w cs xs)(d:∀c∈cs,c.fg=true):∀u∈xs,u.oneCell'=true:=by
 intro u e;obtain⟨i,hi⟩:=abv e
 have a:i<cs.length:=by rw[<-gQ h];exact(aad.1 hi).1
 obtain⟨g,b,f⟩:=nZ h (abh a);rw[hi] at b;cases b;exact WN f (d _ (abi a))
def zzb{c:V}{fs:List (List V)}{x:Value}{t:TypeId}{sz:Nat}(a:(∃E,P.underlying t=some (.slice E))\/P.underlying t=some .string)(h:aq M w c x)(e:c.elems?=some fs)(p:∀f∈fs,f.length=sz) :
  ∃k,Src P sz t x fs.length k w/\ai M w fs.flatten k:=by
 cases c<;>simp only[V.elems?,aab.injEq,reduceCtorEq] at e<;>subst e
 case vs fs tk =>
  simp only[aq] at h;obtain⟨F,q,g,rfl,G,m,_⟩:=h
  cases q with
  | none =>
   obtain⟨rfl,rfl⟩:=m
   exact⟨[],⟨a,λ_=>rfl,run_firstCells_none w sz 0 0 0,run_firstCells_none w.drew sz 0 0 0,ir,λ_ h=>by cases h⟩,by simp only[aaJ,ai]⟩
  | some q =>
   obtain⟨b,d,sp⟩:=q;obtain⟨o,_,m⟩:=m
   by_cases y:fs=[]
   .subst y
    exact⟨[],⟨a,λ_=>rfl,run_firstCells_some w sz 0 ⟨b,d,sp⟩ 0 g [] ir (λj u a=>by simp at a),run_firstCells_some w.drew sz 0 ⟨b,d,sp⟩ 0 g [] ir (λj u a=>by simp at a),ir,ir⟩,
     by simp only[aaJ,ai]⟩
   have o:=o.resolve_left y;simp only at o m;subst o;obtain⟨xs,n,H⟩:=Rn m
   have r:xs.length=fs.length*sz:=by rw[gQ n,wY p]
   have z:∀j u,xs[j]?=some u->w.cell? ((⟨b,d,none⟩:Addr).add j)=some u:=λj u a=>by rw[Addr.add_mid];exact H j u a
   refine⟨xs,⟨a,λ_=>rfl,run_firstCells_some w sz fs.length ⟨b,d,none⟩ fs.length g xs r z,run_firstCells_some w.drew sz fs.length ⟨b,d,none⟩ fs.length g xs r (by simpa using z),r,zut n λc e=>?_⟩,n⟩;obtain⟨f,I,e⟩:=aaO.1 e;exact V.bZ (F f I c e)
 case str s =>
  simp only[aq] at h;subst h
  have l:(qv s).length=s.length:=by simp[qv]
  have A:(ByteArray.mk s.toArray).size=s.length:=by simp[ByteArray.size]
  by_cases v:s=[]
  .subst v
   refine⟨[],⟨a,λ_=>rfl,?_,?_,by simp[qv],λ_ h=>by cases h⟩,by simp only[qv,abx,aaJ,ai]⟩<;>simp[Builtin.firstCells,qv]<;>rfl
  .have n:sz=1:=by
    cases s with
    | nil=>exact absurd rfl v
    | cons b s=>have:=p [V.int .u8 b.toNat] (by simp[qv]);simpa using this.symm
   subst n;refine⟨byteCells ⟨s.toArray⟩,?_,?_⟩
   .rw[l,<-A];exact⟨a,λ_=>rfl,firstCells_string _ w,firstCells_string _ w.drew,by rw[byteCells_length,abU],λu a=>by obtain⟨_,_,rfl⟩:=aaW.1 a;rfl⟩
   .have J:(qv s).flatten=s.map λb=>V.int .u8 b.toNat:=by
     clear p l A v
     induction s with
     | nil=>rfl
     | cons b s B=>simp only[qv,aa0,aaF] at B |-;rw[B];rfl
    rw[J];refine Am (by simp[byteCells]) λi c x e C=>?_;simp only[byteCells,aaL,aaj] at e C;obtain⟨b,K,rfl⟩:=e;obtain⟨L,D,rfl⟩:=C;rw[K] at D;cases D;simp only[aq]
def zxO{c:V}{fs:List (List V)}{x:Value}(h:aq M w c x)(a:c.elems?=some fs):∀f∈fs,∀d∈f,d.pure=true:=by
 cases c<;>simp only[V.elems?,aab.injEq,reduceCtorEq] at a<;>subst a
 case vs=>simp only[aq] at h;exact h.1
 case str =>
  intro f e d hd;obtain⟨b,_,rfl⟩:=aaW.1 e;simp at hd;subst hd;rfl
def W7(P:Program)(t a:TypeId)(sz bytes:Nat):Bool :=
 match elemOf? P t,(elemOf? P a).isSome||B8 P a with
 | some b,true=>match P.info? b with
  | some i=>i.size==sz&&i.bytes==bytes&&decide (0<sz)&&decide (0<bytes)&&(match i.zero with|some z=>z.cells.size==sz|none=>false)
  | none=>false
 | _,_=>false
def zqz(z:Array Value)(k:Nat):(Builtin.zeroCells z k).size=k*z.size:=by simp[Builtin.zeroCells]
def zng(w:World)(t g ty h:TypeId)(i:TypeInfo)(l:P.underlying t=some (.slice h))(hi:P.info? h=some i)(b c f:Nat)(xs:Array Value)(te:TypeId)
  (m:w.heap[b]?=some (.cells xs te (0,0))) (x:Value) (k:Nat) (a:List Value) (e:Src P i.size g x k a w) (n:c+k<=f) (o:c*i.size+a.length<=xs.size) :
  (Builtin.append_ #[t,g] ty #[.slice (some ⟨b,0,none⟩) c f,x]).run P w =
   .ok (.slice (some ⟨b,0,none⟩) (c+k) f) (w.setRow b (xs.toList.take (c*i.size)++a++xs.toList.drop (c*i.size+a.length)).toArray):=by
 have d:=run_storeCells_at P b (c*i.size) te a 0 xs w m (by simpa using o) e.one;simp only[aa9] at d
 rcases e.kind with⟨e',j⟩|j<;>simp[Builtin.append_,run_underlying l,run_underlying j,sizeOf,typeInfo,hi,e.len,n,e.cells,Addr.add_lit,d]
def zFB{t t':TypeId}{x y:Operand}{sx sy:X}{base s sz bytes:Nat}(ho:o.op=.call { callee:=.builtin .append,args:=#[x,y],argTypes:=#[t,t'] })
  (hx:aH M.fm x sx=true) (hy:aH M.fm y sy=true) (T:W7 P t t' sz bytes=true) (ht:bj M w e a n) (O:aG M w H)
  (D:aX base e H (.app s sz bytes sx sy)=some (v,H1)):cY P o a M H w v H1:=by
 have aS:=fy hx ht;have eF:=fy hy ht;unfold W7 at T;split at T
 case h_2=>cases T
 rename_i E gI MO;have K:=elemOf?_some gI
 have xX:(∃E,P.underlying t'=some (.slice E))\/P.underlying t'=some .string:=by
  simp only[abI] at MO
  rcases MO with h|h
  .obtain⟨hw,h⟩:=aaA.1 h;exact .inl ⟨_,elemOf?_some h⟩
  .exact .inr (B9 h)
 split at T
 case h_2=>cases T
 rename_i i hi;simp only[aam,beq_iff_eq,decide_eq_true_eq] at T;obtain⟨⟨⟨⟨Z,iQ⟩,mz⟩,MP⟩,hz⟩:=T;split at hz
 case h_2=>cases hz
 rename_i z U;simp only[beq_iff_eq] at hz
 have V:∀r w',(Builtin.append_ #[t,t'] o.type #[a.eval x,a.eval y]).run P w=.ok r w'->(execOp a.eval o).run P w=.ok (.value r) w':=by intro r w' h;simp only[execOp,ho,resolve,invoke,builtin,Sem.run_bind,Sem.run_pure,Result.andThen_ok,List.map_toArray,aa0,abx,h]
 simp only[aX] at D;split at D
 case h_2=>cases D
 rename_i f tk B hp Q;rw[hp] at aS;split at D
 .rename_i rB;cases D;subst rB;obtain⟨p,Dr,hn⟩:=zzb (sz:=sz) xX eF Q ir;simp only[aaJ,ai] at hn;subst hn;have n_:=aS;simp only[aq] at n_;obtain⟨_,W,m,eZ,hm,_⟩:=n_;have:=run_append_nothing (P:=P) w t t' o.type E i K hi W f.length m hm (a.eval y) (by rw[Z];exact Dr);rw[<-eZ] at this;exact .plain O (V _ _ this) aS
 rename_i rB;split at D
 case isFalse=>cases D
 rename_i hg;obtain⟨R,oD,ig⟩:=hg;obtain⟨p,Dr,Ay⟩:=zzb (sz:=sz) xX eF Q oD
 have lS:p.length=B.length*sz:=by rw[gQ Ay,wY oD]
 have wJ:=zxO eF Q;have n_:=aS;simp only[aq] at n_;obtain⟨lK,W,m,eZ,hm,cC,S⟩:=n_;have hA:0<B.length:=List.length_pos_iff.2 rB
 have nS:∀e∈f++B,∀c∈e,c.pure=true:=by
  intro d hd c F;simp only[aaQ] at hd
  rcases hd with hd|hd
  .exact lK d hd c F
  .exact wJ d hd c F
 have aT:∀e∈f++B,e.length=sz:=by
  intro d hd;simp only[aaQ] at hd
  rcases hd with hd|hd
  .exact ig d hd
  .exact oD d hd
 have he:∃A:List Value,ai M w f.flatten A/\(Builtin.firstCells i.size f.length (.slice W f.length m)).run P w.drew=.ok A.toArray w.drew:=by
  cases W with
  | none =>
   obtain⟨uc,_⟩:=cC;subst uc
   exact⟨[],by simp only[aaJ,ai],by simp[Builtin.firstCells]⟩
  | some W =>
   obtain⟨b,hs,sp⟩:=W;obtain⟨eC,_,cC⟩:=cC
   by_cases Az:f=[]
   .subst Az;exact⟨[],by simp only[aaJ,ai],run_firstCells_some w.drew i.size 0 ⟨b,hs,sp⟩ 0 m [] ir (λj u K=>by simp at K)⟩
   have eC:=eC.resolve_left Az;simp only at eC cC;subst eC;obtain⟨xs,h1,h2⟩:=Rn cC;refine⟨xs,h1,?_⟩
   exact run_firstCells_some w.drew i.size f.length ⟨b,hs,none⟩ f.length m xs (by rw[gQ h1,wY ig,Z]) (λj u K=>by
    rw[Addr.add_mid]
    exact h2 j u K)
 obtain⟨A,Fe,MQ⟩:=he
 have Ff:A.length=f.length*sz:=by rw[gQ Fe,wY ig]
 have G:∀id,(k8 H id=true\/∃k,H[id]?=some (some (.zone k)))->(M.al id=true->(M.z id).n<f.length+B.length)->m<f.length+B.length ->
   (execOp a.eval o).run P w=.ok (.value (.slice (some ⟨w.heap.size,0,none⟩) (f.length+B.length) (grownCap w (f.length+B.length) m E)))
    (w.drew.alloc (.cells ((A++p).toArray++Builtin.zeroCells z.cells (grownCap w (f.length+B.length) m E-(f.length+B.length))) E)) ->
   cY P o a M H w (.vs (f++B) (.own id)) (H.set id (some (.zone (f.length+B.length)))):=by
  intro id bH aj _ Y;have xS:=grownCap_ge w (f.length+B.length) m E;generalize hC:grownCap w (f.length+B.length) m E=C at xS Y
  have Fg:(w.drew.alloc (.cells ((A++p).toArray++Builtin.zeroCells z.cells (C-(f.length+B.length))) E)).heap[w.heap.size]? =
    some (.cells ((A++p).toArray++Builtin.zeroCells z.cells (C-(f.length+B.length))) E (0,0)):=heap_alloc_new w.drew _
  have g:=(iD.drew w).trans (iD.alloc w.drew (.cells ((A++p).toArray++Builtin.zeroCells z.cells (C-(f.length+B.length))) E))
  obtain⟨st,ii,r⟩:=WU (w':=w.drew.alloc (.cells ((A++p).toArray++Builtin.zeroCells z.cells (C-(f.length+B.length))) E)) (z:=⟨f.length+B.length,some w.heap.size,C,sz⟩) O bH g.os g.tape g.output g.size
   (λb I _=>g.block b I)
   (λb l k I _ _=>g.cell (O.fQ ⟨id,I⟩))
   (λb I=>by simp only[aab.injEq] at I;omega)
   (λb l I im _=>by simp only[aab.injEq] at im;have:=O.fQ ⟨id,I⟩;omega)
   (λha=>⟨by have:=aj ha;simp only;omega,λh=>by have:=aj ha;simp only at h;omega⟩)
   (by
    refine⟨by simp only;omega,xS,mz,_,_,Fg,?_⟩;simp only[Array.size_append,abC,aaq,zqz,hz,Ff,lS,<-aaG]
    congr 1
    omega)
  refine⟨_,_,_,Y,?_,st,ii,r⟩;simp only[aq];refine⟨nS,some ⟨w.heap.size,0,none⟩,C,ir,by simpa using xS,⟨.inr rfl,⟨sz,aT⟩,?_⟩,?_⟩
  .have uq:=ai.step st O ii (yR Fe Ay);rw[<-aaP] at uq;refine W6 uq ?_ ?_
   .intro j u K;have J:j<(A++p).length:=(aad.1 K).1;rw[cell_of_row _ w.heap.size (0+j) _ E (0,0) Fg];rw[abl,Array.getElem?_append];rw[if_pos (by simpa using J)];simpa using K
   .intro j J l N;simp only[Mm.mj,if_true,aab.injEq] at N;subst N;simp only[aaq,Ff,lS,<-aaG] at J;simp only[abl];exact J
  .simp only[lY,Mm.mj,decide_true,aaI,if_true,true_and,aaq];exact⟨aaf _,λ_=>aT⟩
 have AA:m<f.length+B.length->Builtin.nextslicecap (f.length+B.length) m*i.bytes<=281474976710656 ->
   (execOp a.eval o).run P w=.ok (.value (.slice (some ⟨w.heap.size,0,none⟩) (f.length+B.length) (grownCap w (f.length+B.length) m E)))
    (w.drew.alloc (.cells ((A++p).toArray++Builtin.zeroCells z.cells (grownCap w (f.length+B.length) m E-(f.length+B.length))) E)):=by
  intro F w8;refine V _ _ ?_
  have:=run_append_grow_src (P:=P) w t t' o.type E i z K hi U W f.length m A MQ (a.eval y) B.length p (by rw[Z];exact Dr) F (by
   have:=abo (f.length+B.length) MP
   omega) w8
  rw[<-eZ] at this;exact this
 have w8:m<f.length+B.length->Builtin.nextslicecap (f.length+B.length) m*i.bytes<=281474976710656:=λh=>growslice_fits h (by rw[iQ];exact R)
 cases tk with
 | no=>cases D
 | full =>
  simp only at D;split at D
  case isFalse=>cases D
  rename_i hf;cases D;simp only[lY] at S
  have F:m<f.length+B.length:=an
  exact G _ (.inl hf) (λha=>by rw[Q_ O hf] at ha;cases ha) F (AA F (w8 F))
 | own q =>
  simp only at D;split at D
  case h_2=>cases D
  rename_i k Q;split at D
  case isFalse=>cases D
  rename_i L;cases D;subst L;simp only[lY] at S;obtain⟨gU,_,S⟩:=S;have I:=O.rel q _ Q;simp only[aK] at I;obtain⟨MR,I⟩:=I;obtain⟨kH,S⟩:=S MR.symm
  cases dE:(M.z q).cE with
  | none =>
   simp only[dE] at I S
   have F:m<f.length+B.length:=an
   exact G q (.inr ⟨_,Q⟩) (λ_=>by omega) F (AA F (w8 F))
  | some b =>
   simp only[dE] at I S;obtain⟨wo,Fh,Fi,Au,xs,te,hh,gJ⟩:=I;obtain⟨rfl,Ro⟩:=S
   by_cases vd:f.length+B.length<=m
   .have W8:(M.z q).sz=sz:=by
     cases J4:f with
     | nil=>rw[J4] at wo;simp at wo
     | cons e0 hB=>rw[<-Ro e0 (by simp[J4]),ig e0 (by simp[J4])]
    have AB:f.length*sz+B.length*sz<=(M.z q).cap*sz:=by rw[<-aaG];exact aaC _ an
    rw[W8] at gJ Au;have Y:=zng (P:=P) w t t' o.type E i K hi b f.length m xs te hh (a.eval y) B.length p (by rw[Z];exact Dr) vd (by rw[Z,lS,gJ];exact AB);rw[<-eZ] at Y;rw[Z] at Y;have x8:=setRow_heap w b xs (xs.toList.take (f.length*sz)++p++xs.toList.drop (f.length*sz+p.length)).toArray te (0,0) hh;generalize hY:(xs.toList.take (f.length*sz)++p++xs.toList.drop (f.length*sz+p.length)).toArray=ys at Y x8
    have MT:∀j,j<f.length*sz->ys[j]?=xs[j]?:=by intro j J;rw[<-hY];simp only[abr,abb];rw[aay (by simp;omega),aap,if_pos J];simp
    have k_:aV M H q=some b:=by simp[aV,Q,dE]
    have jQ:∀k,k≠b->(w.setRow b ys).heap[k]?=w.heap[k]?:=λk L=>setRow_other w b k ys (λe=>L e)
    have HA:∀j,j<f.length*sz->(w.setRow b ys).cell? ⟨b,j,none⟩=w.cell? ⟨b,j,none⟩:=by intro j J;rw[cell_of_row _ b j _ te (0,0) x8,cell_of_row _ b j _ te (0,0) hh,MT j J]
    obtain⟨st,ii,r⟩:=WU (w':=w.setRow b ys) (z:=⟨f.length+B.length,some b,m,sz⟩) O (.inr ⟨_,Q⟩) rfl rfl rfl (by simp[World.setRow])
     (λk _ aC=>jQ k (λe=>aC (by rw[k_,e])))
     (λk l j L N J=>by
      rw[k_] at L;cases L;rw[Au] at N;cases N
      exact HA j J)
     (λk L=>by simp only[aab.injEq] at L;subst L;exact .inr k_)
     (λk l L _ N=>by
      rw[k_] at L;cases L;rw[Au] at N;cases N
      exact aaC _ (by simp only;omega))
     (λ_=>⟨by simp only;omega,λh=>by simp only at h;omega⟩)
     ⟨by simp only;omega,vd,mz,ys,te,x8,by
      have W9:xs.toList.length=m*sz:=by rw[aat,gJ,kH]
      rw[<-kH] at AB;rw[<-hY];simp only[abC,aaq,aae,aar,W9,lS];rw[aa_ an]
      omega⟩
    refine⟨_,_,_,V _ _ Y,?_,st,ii,r⟩;simp only[aq];refine⟨nS,some ⟨b,0,none⟩,m,ir,by simpa using vd,⟨.inr rfl,⟨sz,aT⟩,?_⟩,?_⟩
    .rw[WM];refine⟨?_,?_⟩
     .have:=cC.2.2;exact fV.step st O ii this
     .rw[wY ig];refine W6 (ai.step st O ii Ay) ?_ ?_
      .intro j u K;have J:j<p.length:=(aad.1 K).1;rw[cell_of_row _ b _ _ te (0,0) x8,<-hY];simp only[abr,abl]
       have aj:(xs.toList.take (f.length*sz)).length=f.length*sz:=by
        have W9:xs.toList.length=(M.z q).cap*sz:=by rw[aat,gJ]
        rw[aae,W9];exact aa_ an
       rw[abb,aaH (by rw[aj];omega),aj,Nat.add_sub_cancel_left,aay J];exact K
      .intro j J l N;simp only[Mm.mj,if_true,aab.injEq] at N;subst N;rw[lS] at J;simp only[aaG,abl];omega
    .simp only[lY,Mm.mj,decide_true,aaI,if_true,true_and,aaq];exact⟨aaf _,λ_=>aT⟩
   .have F:m<f.length+B.length:=an
    exact G q (.inr ⟨_,Q⟩) (λ_=>by omega) F (AA F (w8 F))
variable {P:Program} {M M':Mm} {H H1:ae} {w w':World} {e:Env} {a:Act} {n:Nat} {o:Oper} {v:V}
def Mm.move(M:Mm)(id k:Nat):Mm :=
 { M with al:=λi=>decide (i=k)||M.al i,j:=λi=>if i=k then M.j id else M.j i,z:=λi=>if i=id then⟨1,none,1,0⟩ else if i=k then M.z id else M.z i }
def Mm.l7(M:Mm)(k:Nat)(z:Z):Mm:={ M with z:=λi=>if i=k then z else M.z i }
def zBR(c:aG M w H){k:Nat}(z:Z)(f:k8 H k=true):ez M H w (M.l7 k z) H w/\eQ M (M.l7 k z) H.length/\aG (M.l7 k z) w H:=by
 have g:=Q_ c f
 have bo:∀i,aV (M.l7 k z) H i=aV M H i:=by
  intro i
  by_cases h:i=k
  .subst h;unfold aV;rw[uv.1 f]
  .unfold aV;simp only[Mm.l7,h,if_false]
 have a:ez M H w (M.l7 k z) H w :=
  { ez.refl M H w with
   nY:=λ_ _ h=>h
   jq:=λ_ l _ h=>⟨l,h,aaf _⟩
   limo:=λ_ _ _=>rfl
   own:=λb _ n=>by obtain⟨i,hi⟩:=n;rw[bo] at hi;exact⟨i,hi⟩
   fm:=rfl }
 have j:eQ M (M.l7 k z) H.length:=λi _ hi=>by
  have d:i≠k:=λe=>by subst e;rw[g] at hi;cases hi
  simp only[Mm.l7,if_neg d];exact⟨hi,trivial,vb.refl _⟩
 refine⟨a,j,⟨c.rE,λi b hi=>?_,λi o b d m=>?_,c.oI.step a c j⟩⟩
 .have d:i≠k:=λe=>by subst e;rw[uv.1 f] at hi;cases hi
  exact aK.step a c j hi (λb _=>⟨rfl,rfl⟩) (by simp only[Mm.l7,d,if_false])
 .rw[bo] at d m;exact c.inj i o b d m
def Mm.kill(M:Mm)(id:Nat):Mm:={ M with z:=λi=>if i=id then⟨1,none,1,0⟩ else M.z i }
def zzc{fs:List (List V)}(h:∀f∈fs,∀d∈f,d.pure=true):∀c∈fs.flatten,c.fg=true:=λc a=>by
 obtain⟨f,b,a⟩:=aaO.1 a;exact V.bZ (h f b c a)
def intOf?_some{c:V}{k:Int}(h:intOf? c=some k):∃kd,c=.int kd k:=by cases c<;>simp_all [intOf?]
def Rp{b:Option Operand}{xx:Option X}(h:n8 M.fm b xx=true)(c:bj M w e a n):∀x,xx=some x->∀k,intOf? (x.ev e)=some k->∃u kd,b=some u/\a.eval u=.int kd k:=by
 intro x d k f;subst d;unfold n8 at h;split at h
 .cases ‹some x=none›
 .rename_i u y g;cases g;obtain⟨kd,i⟩:=intOf?_some f;have:=fy h c;rw[i] at this;simp only[aq] at this;exact⟨u,kd,rfl,this⟩
 .cases h
def W_{a:Option Operand}{xx:Option X}(h:n8 M.fm a xx=true)(b:xx=none):a=none:=by
 subst b;unfold n8 at h
 split at h<;>simp_all
def Rq{isS:Bool}{len cap l h:Nat}{m:Bool}{lo hi mx:Option Operand}{f q smx:Option X}(z:n8 M.fm lo f=true)(G:n8 M.fm hi q=true)(J:n8 M.fm mx smx=true)
  (H:bj M w e a n) (i:sm e len f q smx=some (l,h,m)) (W:len<=cap) :
  l<=h/\h<=len/\(m=false->(smx=none/\(q=none->h=len))) /\
  (Instr.sliceBounds isS len cap (lo.map a.eval) (hi.map a.eval) (mx.map a.eval)).run P w=.ok (l,h,if m then h else cap) w:=by
 unfold sm at i;simp only at i;split at i
 case h_2=>cases i
 rename_i K r Y j s d;split at i
 case isFalse=>cases i
 rename_i Z;obtain⟨h1,h2,h3,h4,h5⟩:=Z;simp only[aab.injEq,abV.injEq] at i;obtain⟨rfl,rfl,rfl⟩:=i
 have L:∀(y:Nat) (b:BoundsCode),r.toNat<=y->∀u,lo=some u->(Instr.sliceBound (a.eval u) y b).run P w=.ok K.toNat w:=by
  intro y b hy u t
  cases c:f with
  | none=>have:=W_ z c;rw[this] at t;cases t
  | some x =>
   simp only[c] at j;obtain⟨S,kd,o,A⟩:=Rp z H x c K j;rw[t] at o;cases o;rw[A];exact run_sliceBound (P:=P) w kd K y b h1 an
 have T:∀(y:Nat) (b:BoundsCode),r.toNat<=y->∀u,hi=some u->(Instr.sliceBound (a.eval u) y b).run P w=.ok r.toNat w:=by
  intro y b hy u t
  cases c:q with
  | none=>have:=W_ G c;rw[this] at t;cases t
  | some x =>
   simp only[c] at s;obtain⟨S,kd,o,A⟩:=Rp G H x c r s;rw[t] at o;cases o;rw[A];exact run_sliceBound (P:=P) w kd r y b an an
 refine⟨an,an,?_,?_⟩
 .intro BS
  cases Y with
  | some v=>simp at BS
  | none =>
   cases c:smx with
   | none=>exact⟨rfl,λN=>by simp only[N,aab.injEq] at s;omega⟩
   | some x =>
    simp only[c,aaj] at d;obtain⟨_,_,d⟩:=d;cases d
 .cases I:mx with
  | some um =>
   cases c:smx with
   | none=>have:=W_ J c;rw[this] at I;cases I
   | some x =>
    simp only[c,aaj] at d;obtain⟨k,A,d⟩:=d;subst d;obtain⟨S,kd,o,U⟩:=Rp J H x c k A;rw[I] at o;cases o;have B:k=r:=h4 k rfl;subst B;have O:q.isSome=true:=h5 (by simp[c]);obtain⟨xh,C⟩:=aaA.1 O;simp only[C] at s;obtain⟨Q,kh,R,B⟩:=Rp G H xh C k s;have V:=λb=>run_sliceBound (P:=P) w kd k cap b an an;have D:=T k.toNat .slice3B (aaf _) Q R
    cases p:lo with
    | none =>
     have:f=none:=by
      cases g:f with
      | none=>rfl
      | some x=>simp[p,g,n8] at z
     simp only[this,aab.injEq] at j;subst j
     simp[Instr.sliceBounds,R,U,V,D]
    | some E =>
     have F:=L k.toNat .slice3C (aaf _) E p
     simp[Instr.sliceBounds,R,U,V,D,F]
  | none =>
   have zY:smx=none:=by
    cases g:smx with
    | none=>rfl
    | some x=>simp[I,g,n8] at J
   simp only[zY,aab.injEq] at d;subst d
   cases MV:hi with
   | none =>
    have O:q=none:=by
     cases g:q with
     | none=>rfl
     | some x=>simp[MV,g,n8] at G
    simp only[O,aab.injEq] at s;subst s
    cases p:lo with
    | none =>
     have:f=none:=by
      cases g:f with
      | none=>rfl
      | some x=>simp[p,g,n8] at z
     simp only[this,aab.injEq] at j;subst j
     simp[Instr.sliceBounds]
    | some E =>
     have F:=L len .sliceB an E p
     simp[Instr.sliceBounds,F]
   | some Q =>
    have D:=λb=>T cap b an Q MV
    cases p:lo with
    | none =>
     have:f=none:=by
      cases g:f with
      | none=>rfl
      | some x=>simp[p,g,n8] at z
     simp only[this,aab.injEq] at j;subst j
     simp[Instr.sliceBounds,D]
    | some E =>
     have F:=L r.toNat .sliceB (aaf _) E p;simp[Instr.sliceBounds,D,F]
def zv1{b off l k sz:Nat}{es:List (List V)}(h:fV M w b es off)(d:∀e∈es,e.length=sz)(f:l<=es.length):fV M w b ((es.drop l).take k) (off+l*sz):=by
 have c:fV M w b (es.drop l) (off+l*sz):=by
  have a:=h;rw[<-aaM l es,WM] at a
  have:(es.take l).flatten.length=l*sz:=by rw[wY (sz:=sz) (λe g=>d e (aag g)),aae,aa_ f]
  rw[this] at a;exact a.2
 rw[<-aaM k (es.drop l),WM] at c;exact c.1
def zFC{t J:TypeId}{x:Operand}{K:X}{lo hi mx:Option Operand}{L N smx:Option X}{base sz:Nat}{i:TypeInfo}(Y:o.op=.slice t x lo hi mx)(Z:aH M.fm x K=true)
  (oe:elemOf? P t=some J) (sI:P.info? J=some i) (dh:i.size=sz) (O:n8 M.fm lo L=true) (Q:n8 M.fm hi N=true) (R:n8 M.fm mx smx=true)
  (B:bj M w e a n) (S:aG M w H) (f:aX base e H (.slc sz K L N smx)=some (v,H1)):cY P o a M H w v H1:=by
 have u:=fy Z B;have hu:=elemOf?_some oe
 have T:∀(g:Option Addr) (r c l h mm:Nat),a.eval x=.slice g r c->(Instr.sliceBounds true r c (lo.map a.eval) (hi.map a.eval) (mx.map a.eval)).run P w=.ok (l,h,mm) w ->
   (execOp a.eval o).run P w=.ok (.value (.slice (if mm=l then g else g.map (·.add (l*sz))) (h-l) (mm-l))) w:=by
  intro g r c l h mm h1 h2;simp[execOp,Y,h1,Instr.sliceAt,Instr.slice,run_underlying hu,h2,sizeOf,typeInfo,sI,dh]
 simp only[aX] at f;split at f
 .rename_i y tk C;split at f
  case h_2=>cases f
  rename_i l h m D;split at f
  case isFalse=>cases f
  rename_i U;cases f;rw[C] at u;simp only[aq] at u;obtain⟨lK,g,c,E,s,z,eT⟩:=u;obtain⟨F,V,hm,G⟩:=Rq (P:=P) (w:=w) (isS:=true) O Q R B D s;refine .plain S (T g y.length c l h _ E G) ?_
  have p:((y.drop l).take (h-l)).length=h-l:=by rw[aae,aar];omega
  have B_:h<=(if m=true then h else c):=by split<;>omega
  simp only[aq]
  refine⟨λd hd=>lK d (aai (aag hd)),(if(if m=true then h else c)=l then g else g.map (·.add (l*sz))),(if m=true then h else c)-l,by rw[p],by rw[p];omega,?_,?_⟩
  .by_cases q:(if m=true then h else c)=l
   .rw[if_pos q]
    have h0:(y.drop l).take (h-l)=[]:=by rw[show h-l=0 by omega];simp
    rw[h0]
    cases g with
    | none=>exact⟨rfl,an⟩
    | some g=>exact⟨.inl rfl,⟨0,ir⟩,by simp only[fV]⟩
   .rw[if_neg q]
    cases g with
    | none =>
     exfalso;obtain⟨uc,Rr⟩:=z;subst uc;simp only[List.length_nil] at V;apply q
     split<;>omega
    | some g =>
     obtain⟨b,I,sp⟩:=g;obtain⟨A,_,z⟩:=z
     by_cases W:y=[]
     .subst W;exact⟨.inl ir,⟨0,ir⟩,by simp[fV]⟩
     have A:=A.resolve_left W;simp only at A z;subst A;simp only[aa4,Addr.add_lit];exact⟨.inr trivial,⟨sz,λd hd=>U d (aai (aag hd))⟩,zv1 z U an⟩
  .by_cases j:m=true\/tk=.full/\h=y.length
   .rw[if_pos j];simp only[lY,p]
    rcases j with j|⟨j,he⟩
    .rw[if_pos j]
    .subst j;simp only[lY] at eT
     split<;>omega
   .rw[if_neg j];trivial
 .rename_i id I k hf C;split at f
  case h_2=>cases f
  rename_i l h m D;split at f
  case isFalse=>cases f
  rename_i j;cases f;rw[C] at u;simp only[aq] at u;obtain⟨ha,c,E,s⟩:=u;obtain⟨F,V,hm,G⟩:=Rq (P:=P) (w:=w) (isS:=true) O Q R B D s;refine .plain S (T _ k c l h _ E G) ?_
  have B_:h<=(if m=true then h else c):=by split<;>omega
  simp only[aq];refine⟨ha,(if m=true then h else c)-l,?_,an⟩
  congr 1
  by_cases q:(if m=true then h else c)=l
  .rw[if_pos q]
   have:l=0:=by
    rcases j with j|⟨j,BS⟩
    .exact j
    .rw[BS] at q;simp at q;omega
   subst this;simp
  .rw[if_neg q];simp[Addr.add_lit]
 .cases f
def zzd(vs:List Value)(off:Nat):∀(k:Nat) (cs:Array Value),off+k+vs.length<=cs.size ->
  ((vs.zipIdx k).foldl (λcs (c:Value×Nat)=>cs.setIfInBounds (off+c.2) c.1) cs).toList=cs.toList.take (off+k)++vs++cs.toList.drop (off+k+vs.length):=by
 induction vs with
 | nil=>intro k cs _;simp
 | cons v vs a =>
  intro k cs h;simp only[List.zipIdx_cons,List.foldl_cons,abe] at h |-;rw[a (k+1) _ (by simp;omega)];simp only[Array.toList_setIfInBounds]
  have b:off+k<cs.toList.length:=by simp;omega
  have d:(cs.toList.set (off+k) v).take (off+(k+1))=cs.toList.take (off+k)++[v]:=by rw[show off+(k+1)=off+k+1 by omega,List.take_succ_eq_append_getElem (by simpa using b),List.take_set_of_le (aaf _)];simp
  have e:(cs.toList.set (off+k) v).drop (off+(k+1)+vs.length)=cs.toList.drop (off+k+(vs.length+1)):=by
   rw[List.drop_set_of_lt an]
   congr 1
   omega
  rw[d,e];simp
def tH(fm:Fm)(a:Nat->Option (Nat×Nat)):List (Nat×Operand)->List (Nat×Nat×X)->Bool
 | [],[]=>true
 | (i,x)::c,(b,d,e)::qs=>(match a i with|some (f,g)=>f==b&&g==d|none=>false)&&aH fm x e&&tH fm a c qs
 | _,_=>false
def Xb{d:Nat->Option (Nat×Nat)}(o:bj M w e a n):∀{ps:List (Nat×Operand)} {qs:List (Nat×Nat×X)} {cs ds:List V} {xs:Array Value},
  tH M.fm d ps qs=true->nV e cs qs=some ds->ai M w cs xs.toList->(∀c∈cs,c.fg=true) ->
  ∃ys,Instr.fill d xs (ps.map λp=>(p.1,a.eval p.2))=some ys/\ai M w ds ys.toList/\∀c∈ds,c.fg=true
 | [],[],cs,ds,xs,_,f,h,k=>by
  simp only[nV,aab.injEq] at f;subst f
  exact⟨xs,rfl,h,k⟩
 | [],_::_,_,_,_,b,_,_,_=>by simp[tH] at b
 | _::_,[],_,_,_,b,_,_,_=>by simp[tH] at b
 | (i,x)::ps,(z,H,I)::qs,cs,ds,xs,b,f,h,k=>by
  simp only[tH,aam] at b;obtain⟨⟨l,A⟩,b⟩:=b;split at l
  case h_2=>cases l
  rename_i g q B;simp only[aam,beq_iff_eq] at l;obtain⟨rfl,rfl⟩:=l;simp only[nV] at f;split at f
  case h_2=>cases f
  rename_i r C;split at f
  case isFalse=>cases f
  rename_i j;obtain⟨s,D⟩:=WZ (fy A o) C;have E:=gQ s;have t:=gQ h
  have u:(a.eval x).cells.size=q:=by rw[<-aat,E,j.1]
  have v:=zzd (a.eval x).cells.toList g 0 xs (by simp at t |-;omega);simp only[aa9,aat,u] at v
  have y:ai M w (cs.take g++r++cs.drop (g+r.length)) (xs.toList.take g++(a.eval x).cells.toList++xs.toList.drop (g+q)):=by rw[j.1];exact yR (yR (v5 h _) s) (x7 h _)
  rw[<-v] at y
  obtain⟨ys,F,G,m⟩:=Xb o b f y (λc b=>by
   simp only[aaQ] at b
   rcases b with(b|b)|b
   .exact k c (aag b)
   .exact D c b
   .exact k c (aai b))
  refine⟨ys,?_,G,m⟩;simp only[aa0,Instr.fill,B];rw[if_neg]
  .have J:(a.eval x).cells.zipIdx.foldl (λcs (c:Value×Nat)=>cs.setIfInBounds (g+c.2) c.1) xs=((a.eval x).cells.toList.zipIdx 0).foldl (λcs (c:Value×Nat)=>cs.setIfInBounds (g+c.2) c.1) xs:=by rw[<-Array.foldl_toList,Array.toList_zipIdx]
   rw[<-F]
   congr 1
  .simp only[abI,decide_eq_true_eq,not_or];simp at t;exact⟨by simp[u],an⟩
def J7(P:Program)(t:TypeId)(i:Nat):Option (Nat×Nat) :=
 match P.underlying t with
 | some (.struct b)=>match b[i]? with
  | some f=>match P.info? f.type with
   | some a=>some (f.offset,a.size)
   | none=>none
  | none=>none
 | some (.array _ c)=>match P.info? c with
  | some a=>some (i*a.size,a.size)
  | none=>none
 | _=>none
def Xc(P:Program)(t:TypeId):Bool :=
 match P.underlying t with
 | some (.struct a)=>a.all λf=>(P.info? f.type).isSome
 | some (.array _ b)=>(P.info? b).isSome
 | _=>false
def MW(f:Field):Sem (Nat×Nat):=do pure (f.offset,<-sizeOf f.type)
def zxR{f:Field}{a:TypeInfo}(h:P.info? f.type=some a):(MW f).run P w=.ok (f.offset,a.size) w:=by simp[MW,sizeOf,typeInfo,h]
def zkH:∀fs:List Field,(∀f∈fs,(P.info? f.type).isSome=true)->(fs.mapM MW).run P w =
  .ok (fs.map λf=>(f.offset,((P.info? f.type).map (·.size)).getD 0)) w
 | [],_=>by simp
 | f::fs,h=>by
  obtain⟨b,a⟩:=aaA.1 (h f ir);rw[List.mapM_cons,Sem.run_bind,zxR a,Result.andThen_ok,Sem.run_bind,zkH fs (λg c=>h g (by simp[c])),Result.andThen_ok];simp[a]
def zpJ{fs:Array Field}(h:fs.all (λf=>(P.info? f.type).isSome)=true):(fs.mapM MW).run P w =
  .ok (fs.toList.map λf=>(f.offset,((P.info? f.type).map (·.size)).getD 0)).toArray w:=by
 rw[Array.mapM_eq_mapM_toList,Sem.run_map,zkH fs.toList (λf a=>(aa1.1 h) f (by simpa using a))];rfl
def zBS{t:TypeId}{ps:Array (Nat×Operand)}{z:List V}{qs:List (Nat×Nat×X)}{base:Nat}{i:TypeInfo}{j:Value}(x:o.op=.build t ps)
  (hi:P.info? t=some i) (y:i.zero=some j) (A:r7 j.cells.toList z=true) (d:Xc P t=true) (D:tH M.fm (J7 P t) ps.toList qs=true)
  (E:bj M w e a n) (F:aG M w H) (l:aX base e H (.build z qs)=some (v,H1)):cY P o a M H w v H1:=by
 simp only[aX] at l;split at l
 case h_2=>cases l
 rename_i Q G;cases l;obtain⟨g,B,I,J⟩:=Xb (w:=w) E D G (Fc A) (λc K=>V.bZ (Hx A c K));refine .plain (rv:=.agg g) F ?_ (by simp only[aq];exact⟨J,g.toList,ir,I⟩)
 have C:(ps.map λp=>(p.1,a.eval p.2)).toList=ps.toList.map λp=>(p.1,a.eval p.2):=by simp
 unfold Xc at d;split at d
 .rename_i m h
  have r:(λk=>((m.toList.map λf=>(f.offset,((P.info? f.type).map (·.size)).getD 0))[k]?))=J7 P t:=by
   funext k
   simp only[J7,h,aaL];rw[aa2]
   cases L:m[k]? with
   | none=>rfl
   | some f =>
    have N:=Array.mem_of_getElem? L;have:=(aa1.1 d) f N;obtain⟨b,q⟩:=aaA.1 this;simp[q]
  have O:=zpJ (P:=P) (w:=w) d
  have s:Instr.fill (λk=>(m.toList.map λf=>(f.offset,((P.info? f.type).map (·.size)).getD 0)).toArray[k]?) j.cells (ps.map λp=>(p.1,a.eval p.2)).toList=some g:=by
   rw[C,<-B,<-r]
   congr 1
   funext k
   simp
  have u:(Instr.build t (ps.map λp=>(p.1,a.eval p.2))).run P w=.ok (.agg g) w:=by unfold Instr.build;simp only[Sem.run_bind,zeroValue,typeInfo,run_program,hi,y,Sem.run_pure,Result.andThen_ok,run_underlying h];change ((m.mapM MW).run P w).andThen _=_;rw[O,Result.andThen_ok];simp only[s,Sem.run_pure]
  simp only[execOp,x,Sem.run_bind,Sem.run_pure];change (Result.andThen ((Instr.build t (ps.map λp=>(p.1,a.eval p.2))).run P w) _)=_;rw[u];rfl
 .rename_i k R h;obtain⟨b,q⟩:=aaA.1 d
  have r:(λk=>some (k*b.size,b.size))=J7 P t:=by
   funext k
   simp[J7,h,q]
  have s:Instr.fill (λk=>some (k*b.size,b.size)) j.cells (ps.map λp=>(p.1,a.eval p.2)).toList=some g:=by rw[C,r];exact B
  have u:(Instr.build t (ps.map λp=>(p.1,a.eval p.2))).run P w=.ok (.agg g) w:=by unfold Instr.build;simp only[Sem.run_bind,zeroValue,typeInfo,run_program,hi,y,Sem.run_pure,Result.andThen_ok,run_underlying h,sizeOf,q,s]
  simp only[execOp,x,Sem.run_bind,Sem.run_pure];change (Result.andThen ((Instr.build t (ps.map λp=>(p.1,a.eval p.2))).run P w) _)=_;rw[u];rfl
 .cases d
def zEg{t k:TypeId}{x:Operand}{p:X}{lo hi:Option Operand}{q r:Option X}{base sz len:Nat}{i:TypeInfo}(y:o.op=.slice t x lo hi none)(z:aH M.fm x p=true)
  (A:arrOf? P t=some (len,k)) (B:P.info? k=some i) (C:i.size=sz) (D:n8 M.fm lo q=true) (E:n8 M.fm hi r=true)
  (s:bj M w e a n) (F:aG M w H) (c:aX base e H (.wX len sz p q r)=some (v,H1)):cY P o a M H w v H1:=by
 have d:=fy z s;have G:=arrOf?_some A;simp only[aX] at c;split at c
 case h_2=>cases c
 rename_i l h m b;split at c
 case h_2=>cases c
 rename_i id f I;split at c
 case isFalse=>cases c
 rename_i N;cases c;rw[I] at d;simp only[aq] at d;obtain⟨J,O,Q,g⟩:=Rq (P:=P) (w:=w) (isS:=false) (mx:=none) D E rfl s b (aaf len)
 have K:m=false:=by
  unfold sm at b;simp only at b;split at b
  case h_2=>cases b
  split at b
  case isFalse=>cases b
  rename_i u _;simp only[aab.injEq,abV.injEq] at b;simp only[aab.injEq] at u;rw[<-b.2.2,<-u];rfl
 subst K;simp only[aas,if_false] at g
 have L:¬len=l:=an
 refine .plain (rv:=.slice (some ⟨M.j id,f+l*sz,none⟩) (h-l) (len-l)) F ?_ (by simp only[aq];exact⟨d.1,len-l,rfl,an⟩);simp only[Option.map_none] at g;simp[execOp,y,d.2,Instr.sliceAt,Instr.sureAddr,run_underlying G,g,sizeOf,typeInfo,B,C,L,Addr.add_lit]
def Xd{α:Type}(z:List α):∀(k i:Nat),i<k*z.length->(aal k z).flatten[i]?=z[i%z.length]?
 | 0,i,h=>by simp at h
 | k+1,i,h=>by
  rw[List.replicate_succ,aaF]
  by_cases hi:i<z.length
  .rw[aay hi,Nat.mod_eq_of_lt hi]
  .rw[aaH an,Xd z k (i-z.length) (by rw[aaG,aaZ] at h;omega),Nat.mod_eq_sub_mod (by omega:i≥z.length)]
def zqA{sz:Nat}:∀{qs:List (Nat×X)} {es fs:List (List V)},(∀e∈es,e.length=sz)->(∀f∈es,∀c∈f,c.pure=true)->Ao e sz es qs=some fs ->
  nV e es.flatten (qs.map λq=>(q.1*sz,sz,q.2))=some fs.flatten/\fs.length=es.length/\(∀e∈fs,e.length=sz)/\(∀f∈fs,∀c∈f,c.pure=true)
 | [],es,fs,b,g,h=>by
  simp only[Ao,aab.injEq] at h;subst h
  exact⟨rfl,rfl,b,g⟩
 | (i,x)::qs,es,fs,b,g,h=>by
  simp only[Ao] at h;split at h
  case h_2=>cases h
  rename_i ds j;split at h
  case isFalse=>cases h
  rename_i k;obtain⟨hi,d,l⟩:=k
  have m:∀e∈es.set i ds,e.length=sz:=by
   intro f a
   rcases abc a with a|rfl
   .exact b f a
   .exact d
  have n:∀f∈es.set i ds,∀c∈f,c.pure=true:=by
   intro f a
   rcases abc a with a|rfl
   .exact g f a
   .exact abm.1 l
  obtain⟨o,p,r,s⟩:=zqA m n h;refine⟨?_,by rw[p];simp,r,s⟩;simp only[aa0,nV,j];have t:=wY b
  have u:i*sz+sz<=es.length*sz:=by have:(i+1)*sz<=es.length*sz:=aaC _ hi;rw[aaG,aaZ] at this;exact this
  rw[if_pos ⟨d,by rw[t,d];exact u⟩]
  have v:(es.set i ds).flatten=es.flatten.take (i*sz)++ds++es.flatten.drop (i*sz+ds.length):=by
   have w:es=es.take i++es[i]::es.drop (i+1):=by rw[List.getElem_cons_drop,aaM]
   have y:(es.take i).flatten.length=i*sz:=by rw[wY (sz:=sz) (λf a=>b f (aag a)),aae,aa_ an]
   have z:es[i].length=sz:=b _ (abi hi)
   have A:es.set i ds=es.take i++ds::es.drop (i+1):=List.set_eq_take_append_cons_drop▸by rw[if_pos hi]
   rw[A]
   have B:es.flatten=(es.take i).flatten++(es[i]++(es.drop (i+1)).flatten):=by have:=congrArg List.flatten w;rw[aaP,aaF] at this;exact this
   rw[B];simp only[aaP,aaF];rw[<-y,List.take_left,d,<-z,List.drop_append,];simp
  rw[<-v];exact o
def zEh{z:List V}{a:Array Value}(h:r7 a.toList z=true)(n:0<z.length)(k:Nat) :
  ai M w (aal k z).flatten ((aba (k*z.length)).map (λj=>a[j%a.size]!)).toList:=by
 have i:a.size=z.length:=by have:=gQ (Fc (M:=M) (w:=w) h);simpa using this
 refine Am ?_ λj c x d b=>?_
 .rw[wY (sz:=z.length) (λf e=>by rw[aan e])];simp
 .have l:j<k*z.length:=by have:=(aad.1 d).1;rw[wY (sz:=z.length) (λf e=>by rw[aan e]),aa3] at this;exact this
  rw[Xd z k j l] at d;obtain⟨o,g,p⟩:=nZ (Fc (M:=M) (w:=w) h) d
  have m:j%z.length<a.size:=by rw[i];exact abX _ n
  have:x=o:=by simp only[abE,aby,aaL] at b;rw[abw l] at b;simp only[aa4,aab.injEq] at b;rw[<-b,i];rw[getElem!_pos a _ m];simp only[aa2] at g;rw[abd m] at g;simpa using g
  rw[this];exact p
def zEi{t h:TypeId}{l c:Operand}{m:X}{s base bytes:Nat}{z:List V}{i:TypeInfo}{b:Value}(D:o.op=.makeSlice t l c)(E:aH M.fm l m=true)(d:aH M.fm c m=true)
  (F:elemOf? P t=some h) (hi:P.info? h=some i) (G:i.size=z.length) (I:i.bytes=bytes) (J:0<bytes) (K:0<z.length) (L:i.zero=some b) (y:r7 b.cells.toList z=true)
  (A:bj M w e a n) (N:aG M w H) (g:aX base e H (.pY s bytes z m)=some (v,H1)):cY P o a M H w v H1:=by
 have O:=elemOf?_some F;have p:=fy E A;have q:=fy d A;simp only[aX] at g;split at g
 case h_2=>cases g
 rename_i kd k Q;split at g
 case isFalse=>cases g
 rename_i R;obtain⟨u,B,x⟩:=R;cases g;rw[Q] at p q;simp only[aq] at p q;have W:k.toNat<=140737488355328:=aaR (abo _ J) x
 have S:(i.bytes:Int)*k<=281474976710656:=by
  rw[I]
  have Y:((k.toNat*bytes:Nat):Int)=(bytes:Int)*k:=by rw[Int.natCast_mul,Int.toNat_of_nonneg B,Int.mul_comm]
  omega
 have C:=run_make (P:=P) w t h i b O hi L kd kd k k B (Int.le_refl _) S an
 have T:madeCells b.cells (k.toNat*i.size)=(aba (k.toNat*z.length)).map (λj=>b.cells[j%b.cells.size]!):=by rw[G];rfl
 rw[T] at C
 obtain⟨st,U,r⟩:=Ra (t:=h) N u (zEh y K k.toNat) (λc d=>by
  obtain⟨f,u,d⟩:=aaO.1 d;rw[aan u] at d
  exact V.bZ (Hx y c d))
 refine⟨.value (.slice (some ⟨w.heap.size,0,none⟩) k.toNat k.toNat),_,_,?_,?_,st,U,r⟩
 .simp only[execOp,D,p,q,Sem.run_bind,Sem.run_pure,C,Result.andThen_ok]
 .simp only[aq,Mm.iL,decide_true,aaI,if_true,true_and];exact⟨k.toNat,rfl,aaf _⟩
def zsL{t el:TypeId}{k:Nat}{ps:Array (Nat×Operand)}{z:List V}{qs:List (Nat×X)}{i:TypeInfo}{zv:Value}(ho:o.op=.buildSlice t k ps)
  (oe:elemOf? P t=some el) (hi:P.info? el=some i) (dh:i.size=z.length) (vg:0<z.length) (hk:k*z.length<=16777216) (hz:i.zero=some zv) (ng:r7 zv.cells.toList z=true)
  (hp:tH M.fm (λj=>some (j*z.length,z.length)) ps.toList (qs.map λq=>(q.1*z.length,z.length,q.2))=true)
  (ht:bj M w e a n) {cs:List V} (h1:nV e (aal k z).flatten (qs.map λq=>(q.1*z.length,z.length,q.2))=some cs) :
  ∃ys:Array Value,(execOp a.eval o).run P w=.ok (.value (.slice (some ⟨w.heap.size,0,none⟩) k k)) (w.alloc (.cells ys el))/\ai M w cs ys.toList/\∀c∈cs,c.fg=true:=by
 have hu:=elemOf?_some oe;have Xe:=Hx ng
 have sv:zv.cells.size=z.length:=by have:=gQ (Fc (M:=M) (w:=w) ng);simpa using this
 have MY:ai M w (aal k z).flatten ((aba (k*i.size)).map (λj=>zv.cells[j%zv.cells.size]!)).toList:=by
  refine Am ?_ λj c x hc hx=>?_
  .rw[wY (sz:=z.length) (λf hf=>by rw[aan hf])];simp[dh]
  .have hj:j<k*z.length:=by have:=(aad.1 hc).1;rw[wY (sz:=z.length) (λf hf=>by rw[aan hf]),aa3] at this;exact this
   rw[Xd z k j hj] at hc;obtain⟨x',aS,he⟩:=nZ (Fc (M:=M) (w:=w) ng) hc
   have hm:j%z.length<zv.cells.size:=by rw[sv];exact abX _ vg
   have:x=x':=by simp only[abE,aby,aaL,dh] at hx;rw[abw hj] at hx;simp only[aa4,aab.injEq] at hx;rw[<-hx,sv];rw[getElem!_pos zv.cells _ hm];simp only[aa2] at aS;rw[abd hm] at aS;simpa using aS
   rw[this];exact he
 obtain⟨ys,hf,hy,x9⟩:=Xb (w:=w) ht hp h1 MY (λc hc=>by
  obtain⟨f,hf,hc⟩:=aaO.1 hc;rw[aan hf] at hc
  exact V.bZ (Xe c hc))
 have bN:(execOp a.eval o).run P w=.ok (.value (.slice (some ⟨w.heap.size,0,none⟩) k k)) (w.alloc (.cells ys el)):=by
  have p_:(ps.map λp=>(p.1,a.eval p.2)).toList=ps.toList.map λp=>(p.1,a.eval p.2):=by simp
  have hb:(Instr.buildSlice t k (ps.map λp=>(p.1,a.eval p.2))).run P w=.ok (.slice (some ⟨w.heap.size,0,none⟩) k k) (w.alloc (.cells ys el)):=by
   unfold Instr.buildSlice;rw[<-p_] at hf;simp only[Sem.run_bind,run_underlying hu,Result.andThen_ok,sizeOf,typeInfo,run_program,hi,Sem.run_pure];rw[if_neg (by rw[dh];omega)]
   have cK:∀xs:Array Value,Instr.fill (λXf=>some (Xf*i.size,i.size)) xs (ps.map λp=>(p.1,a.eval p.2)).toList=some ys ->
     Sem.run P (match Instr.fill (λXf=>some (Xf*i.size,i.size)) xs (ps.map λp=>(p.1,a.eval p.2)).toList with
      | some cells=>(do pure (.slice (some (<-newRow el cells)) k k):Sem Value)
      | _ => stuck "buildSlice: a part of the wrong size") w = .ok (.slice (some ⟨w.heap.size, 0, none⟩) k k) (w.alloc (.cells ys el)) := by
    intro xs hx;rw[hx];simp[newRow]
   by_cases Xg:k*i.size=0
   .rw[if_pos Xg]
    have gJ:(aba (k*i.size)).map (λj=>(#[]:Array Value)[j%(#[]:Array Value).size]!)=(aba (k*i.size)).map (λj=>zv.cells[j%zv.cells.size]!):=by apply abG;rw[Xg];simp
    rw[Sem.run_bind,Sem.run_pure,Result.andThen_ok];refine cK _ ?_;rw[gJ];simpa[dh] using hf
   .rw[if_neg Xg];simp only[Sem.run_bind,zeroValue,typeInfo,run_program,hi,hz,Sem.run_pure,Result.andThen_ok];refine cK _ ?_;simpa[dh] using hf
  simp only[execOp,ho,Sem.run_bind,Sem.run_pure];change (Result.andThen ((Instr.buildSlice t k (ps.map λp=>(p.1,a.eval p.2))).run P w) _)=_;rw[hb];rfl
 exact⟨ys,bN,hy,x9⟩
def zqB{t b:TypeId}{k:Nat}{ps:Array (Nat×Operand)}{z:List V}{qs:List (Nat×X)}{i:TypeInfo}{g:Value}(m:o.op=.buildSlice t k ps)
  (p:elemOf? P t=some b) (hi:P.info? b=some i) (r:i.size=z.length) (s:0<z.length) (u:k*z.length<=16777216) (v:i.zero=some g) (h:r7 g.cells.toList z=true)
  (x:tH M.fm (λj=>some (j*z.length,z.length)) ps.toList (qs.map λq=>(q.1*z.length,z.length,q.2))=true)
  (y:bj M w e a n) {es:List (List V)} (A:Ao e z.length (aal k z) qs=some es) :
  ∃ys:Array Value,(execOp a.eval o).run P w=.ok (.value (.slice (some ⟨w.heap.size,0,none⟩) k k)) (w.alloc (.cells ys b))/\ai M w es.flatten ys.toList/\es.length=k/\(∀f∈es,f.length=z.length)/\(∀f∈es,∀c∈f,c.pure=true):=by
 have B:=Hx h;obtain⟨C,l,D,E⟩:=zqA (λf d=>by rw[aan d]) (λf d=>by rw[aan d];exact B) A;rw[aa3] at l;obtain⟨ys,F,G,_⟩:=zsL m p hi r s u v h x y C;exact⟨ys,F,G,l,D,E⟩
def zze{t b:TypeId}{k base:Nat}{ps:Array (Nat×Operand)}{z:List V}{qs:List (Nat×X)}{i:TypeInfo}{d:Value}(m:o.op=.buildSlice t k ps)
  (p:elemOf? P t=some b) (hi:P.info? b=some i) (s:i.size=z.length) (x:0<z.length) (y:k*z.length<=16777216) (A:i.zero=some d) (B:r7 d.cells.toList z=true)
  (C:tH M.fm (λj=>some (j*z.length,z.length)) ps.toList (qs.map λq=>(q.1*z.length,z.length,q.2))=true)
  (D:bj M w e a n) (f:aG M w H) (c:aX base e H (.bslice k z qs)=some (v,H1)):cY P o a M H w v H1:=by
 simp only[aX] at c;split at c
 case h_2=>cases c
 rename_i O E;cases c;obtain⟨F,G,I,g,J,K⟩:=zqB m p hi s x y A B C D E;obtain⟨st,h,r⟩:=MH (M':=M.jq w.heap.size none) f (iD.alloc w (.cells F b)) (Same.jq M _ _);refine⟨_,_,_,G,?_,st,h,r⟩;simp only[aq];refine⟨K,some ⟨w.heap.size,0,none⟩,k,by rw[g],an,⟨.inr rfl,⟨z.length,J⟩,?_⟩,by simp only[lY];exact g.symm⟩;refine W6 (ai.step st f h I) ?_ ?_
 .intro j u L;rw[cell_of_row _ w.heap.size (0+j) _ b (0,0) (heap_alloc_new w _)];simpa using L
 .intro j _ l N;simp[Mm.jq] at N
def zxS{t c:TypeId}{k base s:Nat}{ps:Array (Nat×Operand)}{z:List V}{qs:List (Nat×X)}{i:TypeInfo}{h:Value}(C:o.op=.buildSlice t k ps)
  (D:elemOf? P t=some c) (hi:P.info? c=some i) (E:i.size=z.length) (F:0<z.length) (G:k*z.length<=16777216) (I:i.zero=some h) (J:r7 h.cells.toList z=true)
  (K:tH M.fm (λj=>some (j*z.length,z.length)) ps.toList (qs.map λq=>(q.1*z.length,z.length,q.2))=true)
  (L:bj M w e a n) (l:aG M w H) (b:aX base e H (.jD s k z qs)=some (v,H1)):cY P o a M H w v H1:=by
 simp only[aX] at b;split at b
 case h_2=>cases b
 rename_i m N;split at b
 case isFalse=>cases b
 rename_i p;cases b;obtain⟨d,O,f,r,u,Q⟩:=zqB C D hi E F G I J K L N
 have x:d.size=k*z.length:=by rw[<-aat,gQ f,wY u,r]
 have R:m.flatten.length=k*z.length:=by rw[wY u,r]
 obtain⟨y,A,B⟩:=zBR l ⟨0,none,k,z.length⟩ p
 obtain⟨S,T,U⟩:=MJ (ob:=.cells d c) (blk0:=.grow m.flatten z.length true) B p rfl λg W=>by
  simp only[aK];refine⟨zzc Q,by simp[Mm.iL],by simp[Mm.iL,Mm.l7],by simp[Mm.iL,Mm.l7],d,c,?_,by simp[Mm.iL,Mm.l7,x],?_,λ_=>by rw[x,R]⟩
  .simp only[Mm.iL,if_true];exact heap_alloc_new w _
  .rw[zus f];exact ai.step g B W (ai.step y l A f)
 refine⟨_,_,_,O,?_,y.trans S,A.trans T (aaf _),U⟩;simp only[aq];exact⟨by simp[Mm.iL],k,by simp[Mm.iL,Mm.l7],aaf _,λ_=>by simp[Mm.iL,Mm.l7]⟩
def Rs{sz:Nat}:∀{k:Nat} {cs:List V},k*sz<=cs.length->(pg sz k cs).flatten=cs.take (k*sz)/\(pg sz k cs).length=k/\∀e∈pg sz k cs,e.length=sz/\∀c∈e,c∈cs
 | 0,cs,_=>by simp[pg]
 | k+1,cs,h=>by
  rw[aaG,aaZ] at h;obtain⟨d,f,b⟩:=Rs (sz:=sz) (k:=k) (cs:=cs.drop sz) (by rw[aar];omega);refine⟨?_,by simp[pg,f],?_⟩
  .simp only[pg,aaF,d];rw[aaG,aaZ,Nat.add_comm,List.take_add]
  .intro e he;simp only[pg,abK] at he
   rcases he with rfl|he
   .exact⟨by rw[aae];omega,λc a=>aag a⟩
   .exact⟨(b e he).1,λc a=>aai ((b e he).2 c a)⟩
def zEj{t Y:TypeId}{x:Operand}{Z:X}{base:Nat}(z:o.op=.convert t t x)(hx:aH M.fm x Z=true)(hs:P.underlying t=some (.slice Y))(gI:P.underlying Y=some (.int .u8))
  (ht:bj M w e a n) (q:aG M w H) (r:aX base e H (.mark Z)=some (v,H1)):cY P o a M H w v H1:=by
 have F:=fy hx ht;simp only[aX] at r;split at r
 case h_2=>cases r
 rename_i id k hp;split at r
 case h_2=>cases r
 rename_i cs sz G;split at r
 case isFalse=>cases r
 rename_i A;obtain⟨rfl,rfl,I⟩:=A;cases r;have I:=abm.1 I;rw[hp] at F;simp only[aq] at F;obtain⟨gU,B,eZ,J,K⟩:=F;have cM:=q.rel id _ G;simp only[aK] at cM;obtain⟨x9,L,N,Ro,xs,O,hh,gJ,hE,Q⟩:=cM;have kH:=K N;have xL:=Q trivial;rw[abU,<-kH] at gJ;have aj:id<H.length:=(aad.1 G).1;have jV:xs.toList.take cs.length=xs.toList:=abp (by rw[aat,xL];exact aaf _);rw[jV] at hE;obtain⟨w',C⟩:=ax (w.freeze ⟨M.j id,xs.size,none⟩ 1)
 have R:∀b,b≠M.j id->w'.heap[b]?=w.heap[b]?:=λb D=>by
  rw[C];simp only[World.freeze];rw[if_neg aga];simp only[abt];rw[if_neg (λh=>D h.symm)]
 have mV:w'.heap[M.j id]?=some (.cells xs O (xs.size,xs.size+1)):=by rw[C];simp only[World.freeze];rw[if_neg aga];simp only[abt,if_true,hh];rfl
 have dh:w'.heap.size=w.heap.size:=by rw[C];simp only[World.freeze];rw[if_neg aga];simp only[Array.size_modify]
 have S:w'.os=w.os/\w'.tape=w.tape/\w'.output=w.output:=by rw[C];simp only[World.freeze];rw[if_neg aga];exact⟨rfl,rfl,rfl⟩
 have fz:w.shape? (M.j id)=some (O,xs.size):=by simp[World.shape?,hh]
 have bN:(execOp a.eval o).run P w=.ok (.value (.slice (some ⟨M.j id,0,none⟩) cs.length B)) w':=by rw[C];simp[execOp,z,eZ,convert,run_underlying hs,run_underlying gI,markStringish,fz]
 obtain⟨m,f⟩:=ax ((M.kill id).cI (M.j id) cs.length)
 have T:aV M H id=some (M.j id):=by simp[aV,G]
 have s:(H.set id (some (az.zone 1)))[id]?=some (some (.zone 1)):=aah aj
 have U:aV m (H.set id (some (.zone 1))) id=none:=by rw[f];unfold aV;rw[s];simp[Mm.kill,Mm.cI]
 have bo:∀i,i≠id->aV m (H.set id (some (.zone 1))) i=aV M H i:=by intro i h;rw[f];unfold aV;rw[getElem?_set_ne h];simp only[Mm.kill,Mm.cI,h,if_false]
 have u:∀i b,aV m (H.set id (some (.zone 1))) i=some b->i≠id/\aV M H i=some b:=by
  intro i b hi
  by_cases h:i=id
  .subst h;rw[U] at hi;cases hi
  .rw[bo i h] at hi;exact⟨h,hi⟩
 have p:ez M H w m (H.set id (some (.zone 1))) w':={
  os:=S.1
  tape:=S.2.1
  output:=S.2.2
  size:=by rw[dh];exact aaf _
  same:=λb _ z=>R b λe=>z ⟨id,by rw[T,e]⟩
  cells:=λb l o _ g z=>by
   by_cases e:b=M.j id
   .subst e;rw[L] at g;cases g;omega
   .exact World.cell?_of_block (w:=w) (R b e)
  nY:=λb _ g=>by
   rw[f];simp only[Mm.cI,Mm.kill]
   rw[if_neg];· exact g
   intro e;subst e;rw[L] at g;cases g
  jq:=λb l' _ g=>by
   rw[f];simp only[Mm.cI,Mm.kill]
   by_cases e:b=M.j id
   .subst e;rw[L] at g;cases g;exact⟨cs.length,ir,abT _⟩
   .exact⟨l',by rw[if_neg e];exact g,aaf _⟩
  limo:=λb _ z=>by
   rw[f];simp only[Mm.cI,Mm.kill];rw[if_neg];intro e;exact z ⟨id,by rw[T,e]⟩
  own:=λb _ HB=>by obtain⟨i,hi⟩:=HB;exact⟨i,(u i b hi).2⟩
  fm:=by rw[f];rfl }
 have E:eQ M m H.length:=λi _ hi=>by
  rw[f];refine⟨hi,rfl,?_⟩;simp only[Mm.kill,Mm.cI];split
  .rename_i d;subst d;exact⟨by simp[N],λh=>by simp[N] at h⟩
  .exact vb.refl _
 have hR:aG m w' (H.set id (some (.zone 1))):=by
  refine⟨λi=>?_,λi b hi=>?_,λi i' b V d=>q.inj i i' b (u i b V).2 (u i' b d).2,q.oI.step p q E⟩
  .by_cases d:i=id
   .subst d;rw[f];simp only[Mm.kill,Mm.cI,gU,true_iff];exact⟨_,s⟩
   .rw[getElem?_set_ne d,f];exact q.rE i
  .by_cases d:i=id
   .subst d;rw[s] at hi;cases hi;rw[f];simp[aK,Mm.kill,Mm.cI]
   .rw[getElem?_set_ne d] at hi;refine aK.step p q E hi (λb iv=>?_) (by rw[f];simp only[Mm.kill,Mm.cI,d,if_false]);have D:b≠M.j id:=λe=>d (q.inj i id b iv (by rw[T,e]));exact⟨R b D,by rw[f];simp only[Mm.cI,Mm.kill];rw[if_neg D]⟩
 refine⟨_,_,m,bN,?_,p,E,hR⟩;obtain⟨V,d,h3⟩:=Rs (sz:=1) (k:=cs.length) (cs:=cs) an;simp only[aq];refine⟨λe W c A=>I c ((h3 e W).2 c A),some ⟨M.j id,0,none⟩,B,by rw[d],by rw[d];exact J,⟨.inr rfl,⟨1,λe W=>(h3 e W).1⟩,?_⟩,?_⟩
 .rw[JY,V,abp an];refine Dl λi c A=>?_;obtain⟨y,hy,Xh⟩:=nZ (ai.step p q E hE) A;refine⟨y,?_,λl g=>?_,Xh⟩
  .rw[cell_of_row w' (M.j id) (0+i) xs O _ mV];simpa using hy
  .rw[f] at g;simp only[Mm.cI,if_true,aab.injEq] at g;have:=(aad.1 A).1;show(0:Nat)+i<l;omega
 .simp only[lY,d];omega
def zxT{t c:TypeId}{k base sp:Nat}{ps:Array (Nat×Operand)}{z:List V}{qs:List (Nat×X)}{i:TypeInfo}{d:Value}(f:o.op=.buildSlice t k ps)
  (g:elemOf? P t=some c) (hi:P.info? c=some i) (h:i.size=z.length) (l:0<z.length) (m:k*z.length<=16777216) (p:i.zero=some d) (s:r7 d.cells.toList z=true)
  (u:tH M.fm (λj=>some (j*z.length,z.length)) ps.toList (qs.map λq=>(q.1*z.length,z.length,q.2))=true)
  (x:bj M w e a n) (y:aG M w H) (b:aX base e H (.bsliceR sp k z qs)=some (v,H1)):cY P o a M H w v H1:=by
 simp only[aX] at b;split at b
 case isFalse=>cases b
 rename_i A;split at b
 case h_2=>cases b
 rename_i ds B;cases b;obtain⟨G,C,D,E⟩:=zsL f g hi h l m p s u x B;obtain⟨st,F,r⟩:=Ra (t:=c) y A D E;refine⟨_,_,_,C,?_,st,F,r⟩;simp only[aq,Mm.iL,decide_true,aaI,if_true,true_and];exact⟨k,rfl,aaf _⟩
def zEk{c:V}{ds:List V}{x:Value}{sz:Nat}(E:aG M w H)(B:0<sz)(h:aq M w c x)(l:Q8 H sz c=some ds)(k:Nat)(o:k<=ds.length/sz) :
  (Builtin.lenOf x).run P w=.ok (ds.length/sz) w/\(∀d∈ds,d.fg=true)/\∃xs:List Value,(Builtin.firstCells sz k x).run P w=.ok xs.toArray w/\ai M w (ds.take (k*sz)) xs/\xs.length=k*sz:=by
 have F:k*sz<=ds.length:=aaR (aaC _ o) (Nat.div_mul_le_self _ _)
 cases c<;>simp only[Q8,reduceCtorEq] at l
 case vs es tk =>
  split at l
  case isFalse=>cases l
  rename_i t;cases l
  have t:∀e∈es,e.length=sz:=λe r=>by have:=abm.1 t e r;simpa using this
  have G:=wY t
  have i:es.flatten.length/sz=es.length:=by rw[G];exact abA _ B
  rw[i] at o |-;simp only[aq] at h;obtain⟨I,v,n,rfl,J,p,_⟩:=h
  refine⟨by simp[Builtin.lenOf],λd hd=>by
   obtain⟨f,K,hd⟩:=aaO.1 hd
   exact V.bZ (I f K d hd),?_⟩
  cases v with
  | none =>
   obtain⟨rfl,rfl⟩:=p
   have:k=0:=by simpa using o
   subst this
   exact⟨[],by simp[Builtin.firstCells],by simp[ai],ir⟩
  | some v =>
   obtain⟨b,a,sp⟩:=v;obtain⟨s,_,p⟩:=p
   by_cases L:k=0
   .subst L;exact⟨[],run_firstCells_some w sz 0 ⟨b,a,sp⟩ es.length n [] ir (λj u g=>by simp at g),by simp[ai],ir⟩
   have N:es≠[]:=by rintro rfl;simp at o;omega
   have s:=s.resolve_left N;simp only at s p;subst s;obtain⟨xs,C,O⟩:=Rn p;have y:=gQ C;have z:=v5 C (k*sz)
   refine⟨xs.take (k*sz),run_firstCells_some w sz k ⟨b,a,none⟩ es.length n (xs.take (k*sz)) (by rw[aae];omega) (λj u g=>by
    rw[Addr.add_mid];rw[aap] at g;split at g
    .exact O j u g
    .cases g),z,by rw[aae];omega⟩
 case rs id a m yT =>
  split at l
  case h_2=>cases l
  rename_i A Q;split at l
  case isFalse=>cases l
  rename_i U;cases l
  have q:((A.drop a).take (m*sz)).length=m*sz:=by rw[aae,aar];omega
  have i:((A.drop a).take (m*sz)).length/sz=m:=by rw[q];exact abA _ B
  rw[i] at o |-;simp only[aq] at h;obtain⟨_,n,rfl,J⟩:=h;have D:=E.rel id _ Q;simp only[aK] at D;obtain⟨R,_,xs,S,T,r⟩:=D;have y:=gQ r;have z:=v5 (v5 (x7 r a) (m*sz)) (k*sz);have W:k*sz<=m*sz:=aaC _ o
  refine⟨by simp[Builtin.lenOf],λd hd=>R d (aai (aag hd)),_,run_firstCells_some w sz k ⟨M.j id,a,none⟩ m n ((((xs.toList.take A.length).drop a).take (m*sz)).take (k*sz)) (by
   rw[aae,aae,aar,y];omega) (λj u g=>by
    rw[Addr.add_mid,cell_of_row w (M.j id) (a+j) xs S (0,0) T];rw[aap] at g;split at g
    .rw[aap] at g;split at g
     .rw[aaV] at g;exact Rj g
     .cases g
    .cases g),z,by rw[aae,aae,aar,y];omega⟩
def zFD{t t' D:TypeId}{x y:Operand}{E F:X}{base sz:Nat}{i:TypeInfo}(Q:o.op=.call { callee:=.builtin .copy,args:=#[x,y],argTypes:=#[t,t'] })
  (R:aH M.fm x E=true) (S:aH M.fm y F=true) (T:elemOf? P t=some D) (hi:P.info? D=some i) (U:i.size=sz) (G:bj M w e a n) (u:aG M w H)
  (g:aX base e H (.E_ sz E F)=some (v,H1)):cY P o a M H w v H1:=by
 have z:=fy R G;have V:=fy S G;have W:=elemOf?_some T;simp only[aX] at g;split at g
 case h_2=>cases g
 rename_i id b m yT Y;split at g
 case h_2=>cases g
 rename_i h ds I Z;split at g
 case isFalse=>cases g
 rename_i d;obtain⟨ha,hz⟩:=d;cases g;rw[Y] at z;simp only[aq] at z;obtain⟨_,hf,eZ,kH⟩:=z;obtain⟨k,q⟩:=ax (min (ds.length/sz) m);rw[<-q]
 have Rt:k<=m:=by rw[q];exact Nat.min_le_right _ _
 obtain⟨l,J,xs,wG,A,B⟩:=zEk (P:=P) u hz V Z k (by rw[q];exact Nat.min_le_left _ _);have K:=u.rel id _ I;simp only[aK] at K;obtain⟨L,_,f,te,N,C⟩:=K;have jU:=gQ C;have kg:k*sz<=m*sz:=aaC _ Rt;have Xi:=gQ A;have qD:=zut A (λc d=>J c (aag d))
 have O:h.length<=f.toList.length:=by rw[aae] at jU;omega
 have hg:h.length<=f.size:=by simpa using O
 have p:=run_storeCells_at P (M.j id) b te xs 0 f w N (by rw[B];omega) qD;simp only[aa9] at p
 obtain⟨s,ii,r⟩:=WT (ds:=h.take b++ds.take (k*sz)++h.drop (b+k*sz)) u I N (ys:=(f.toList.take b++xs++f.toList.drop (b+xs.length)).toArray)
  (by
   rw[show(h.take b++ds.take (k*sz)++h.drop (b+k*sz)).length=h.length by simp only[aaq,aae,aar] at Xi |-;omega];simp only[];rw[zqx O (by rw[B];omega)];refine yR (yR (v5 C b) A) ?_;rw[B]
   exact x7 C _)
  (λc d=>by
   simp only[aaQ] at d
   rcases d with(d|d)|d
   .exact L c (aag d)
   .exact J c (aag d)
   .exact L c (aai d))
 refine⟨.value (.int .i64 k),_,_,?_,by simp only[aq],s,ii,r⟩;have Xj:Nat.min (ds.length/sz) m=k:=q.symm;simp[execOp,Q,resolve,invoke,builtin,eZ,Builtin.copy_,run_underlying W,l,Xj,sizeOf,typeInfo,hi,U,wG,p,goInt]
end Go.Ev
