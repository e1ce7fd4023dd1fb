/- Operations that may be done in either order. -/
import Derived.Test.YtogjnjnabikdpaaGreatDoorEvJW
set_option linter.unusedSimpArgs false
set_option linter.unusedVariables false
namespace Go.Ev
open Go Go.RowKit
variable {P:Program} {M M':Mm} {H H1 H2:Heap} {w w':World} {fm:Fm}
def X.uses:X→List Nat
 | .t i=>[i]
 | .c _=>[]
def zbI:List X→List Nat
 | []=>[]
 | x::xs=>x.uses++zbI xs
def zfj:Option X→List Nat
 | none=>[]
 | some x=>x.uses
def SOp.uses:SOp→List Nat
 | .loadC _ _ x=>x.uses
 | .storeN _ _ a x=>a.uses++x.uses
 | .mv x|.box _ x|.load _ _ _ x|.faddr _ x|.fld _ _ _ x|.un _ x|.conv _ x|.ext _ x|.len _ x|.nilck x|.mksl _ _ _ x=>x.uses
 | .pick c a b=>c.uses++a.uses++b.uses
 | .alloc _ _=>[]
 | .build _ ps=>zbI (ps.map (·.2.2))
 | .bslice _ _ ps=>zbI (ps.map (·.2))
 | .bsliceR _ _ _ ps=>zbI (ps.map (·.2))
 | .store _ a x=>a.uses++x.uses
 | .iaddr _ x i|.iaddrA _ _ x i|.idx _ _ _ x i|.bin _ x i|.beq _ x i|.app _ _ _ x i|.appG _ _ _ _ x i=>x.uses++i.uses
 | .mkfn _ cap=>zbI cap
 | .slc _ x lo hi mx=>x.uses++zfj lo++zfj hi++zfj mx
 | .nileq _ _ x|.b2s x|.i2s x|.s2b _ x|.rng _ x|.nxt x=>x.uses
 | .mm _ xs=>zbI xs
 | .aeq _ _ x y|.sidx x y|.cpy _ x y|.mget _ _ _ x y|.ment _ _ x y=>x.uses++y.uses
 | .sslc x lo hi|.slcA _ _ x lo hi=>x.uses++zfj lo++zfj hi
 | .mkmap _=>[]
 | .loadR _ _ r x=>r::x.uses
 | .storeA _ rs a x=>rs++a.uses++x.uses
 | .mput _ x k v|.mst x k v=>x.uses++k.uses++v.uses
 | .pcall _ xs|.scall _ xs|.scallE _ xs|.kcall _ _ xs=>zbI xs
 | .scallA rs _ xs=>rs++zbI xs
 | .vcall _ f xs=>f.uses++zbI xs
def SOper.uses(o:SOper):List Nat:=o.op.uses++(match o.guard with|some (g,_)=>[g]|none=>[])
theorem X.ev_congr{e f:Env}{x:X}(h:∀ i∈x.uses,f i=e i):x.ev f=x.ev e:=by
 cases x with
 | t i=>exact h i (by simp[X.uses])
 | c v=>rfl
theorem zbu{e f:Env}:∀{xs:List X},(∀ i∈zbI xs,f i=e i)→xs.map (X.ev f)=xs.map (X.ev e)
 | [],_=>rfl
 | x::xs,h=>by
  simp only[zbI,List.mem_append] at h
  simp only[List.map_cons,X.ev_congr (fun i hi=>h i (.inl hi)),zbu (fun i hi=>h i (.inr hi))]
theorem zib{e f:Env}:∀{ps:List (Nat×Nat×X)} {cs:List V},(∀ i∈zbI (ps.map (·.2.2)),f i=e i)→za6 f cs ps=za6 e cs ps
 | [],_,_=>rfl
 | (off,sz,x)::ps,cs,h=>by
  simp only[List.map_cons,zbI,List.mem_append] at h
  simp only[za6,X.ev_congr (fun i hi=>h i (.inl hi))]
  split
  ·split
   ·exact zib (fun i hi=>h i (.inr hi))
   ·rfl
  ·rfl
theorem zk8{e f:Env}{sz:Nat}:∀{ps:List (Nat×X)} {es:List (List V)},(∀ i∈zbI (ps.map (·.2)),f i=e i)→zgM f sz es ps=zgM e sz es ps
 | [],_,_=>rfl
 | (j,x)::ps,es,h=>by
  simp only[List.map_cons,zbI,List.mem_append] at h
  simp only[zgM,X.ev_congr (fun i hi=>h i (.inl hi))]
  split
  ·split
   ·exact zk8 (fun i hi=>h i (.inr hi))
   ·rfl
  ·rfl
theorem zhn{e f:Env}{len:Nat}{lo hi mx:Option X}(h1:∀ i∈zfj lo,f i=e i)(h2:∀ i∈zfj hi,f i=e i)(h3:∀ i∈zfj mx,f i=e i):zbC f len lo hi mx=zbC e len lo hi mx:=by
 unfold zbC
 cases lo<;>cases hi<;>cases mx<;>simp only[zfj] at h1 h2 h3<;>(try simp only[X.ev_congr h1])<;>(try simp only[X.ev_congr h2])<;>(try simp only[X.ev_congr h3])<;>(try rfl)
theorem zl3{e f:Env}{mx:Bool}{k:IntKind}:∀{xs:List X} {p:Int},(∀ i∈zbI xs,f i=e i)→mmGo f mx k p xs=mmGo e mx k p xs
 | [],_,_=>rfl
 | x::xs,p,h=>by
  simp only[zbI,List.mem_append] at h
  simp only[mmGo,X.ev_congr (fun i hi=>h i (.inl hi))]
  split
  ·split
   ·exact zl3 (fun i hi=>h i (.inr hi))
   ·rfl
  ·rfl
theorem zst{base:Nat}{e f:Env}{s:SOp}(h:∀ i∈s.uses,f i=e i):ev1 base f H s=ev1 base e H s:=by
 cases s<;>simp only[SOp.uses,List.mem_append] at h<;>simp only[ev1]
 case mv|box|load|loadC|faddr|fld|un|conv|ext|len|nilck|mksl|nileq|b2s|i2s|s2b|rng|nxt=>rw[X.ev_congr h]
 case mm mx xs =>
  cases xs with
  | nil=>rfl
  | cons x xs =>
   simp only[zbI,List.mem_append] at h
   simp only[X.ev_congr (fun i hi=>h i (.inl hi)),zl3 (fun i hi=>h i (.inr hi))]
 case loadR =>
  simp only[List.mem_cons] at h
  rw[X.ev_congr (fun i hi=>h i (.inr hi)),h _ (.inl rfl)]
 case storeA sz rs a x =>
  have hr:rs.map f=rs.map e:=List.map_congr_left fun r hr=>h r (.inl (.inl hr))
  have hall:∀ id,rs.all (fun r=>(f r).ptrId? !=some id)=rs.all (fun r=>(e r).ptrId? !=some id):=by
   intro id
   have h1:∀ g:Env,rs.all (fun r=>(g r).ptrId? !=some id)=(rs.map g).all (fun v=>v.ptrId? !=some id):=fun g=>by rw[List.all_map]; rfl
   rw[h1,h1,hr]
  rw[X.ev_congr (fun i hi=>h i (.inl (.inr hi))),X.ev_congr (fun i hi=>h i (.inr hi))]
  simp only[hall]
 case mput|mst=>rw[X.ev_congr (fun i hi=>h i (.inl (.inl hi))),X.ev_congr (fun i hi=>h i (.inl (.inr hi))),X.ev_congr (fun i hi=>h i (.inr hi))]
 case sslc|slcA =>
  rw[X.ev_congr (fun i hi=>h i (.inl (.inl hi)))]
  simp only[zhn (fun i hi=>h i (.inl (.inr hi))) (fun i hi=>h i (.inr hi)) (fun i hi=>by simp[zfj] at hi:∀ i∈zfj none,f i=e i)]
 case pick=>rw[X.ev_congr (fun i hi=>h i (.inl (.inl hi))),X.ev_congr (fun i hi=>h i (.inl (.inr hi))),X.ev_congr (fun i hi=>h i (.inr hi))]
 case build=>rw[zib h]
 case bslice=>rw[zk8 h]
 case bsliceR s n z ps=>rw[zib (ps:=ps.map fun q=>(q.1*z.length,z.length,q.2)) (by rw[List.map_map]; exact h)]
 case store|storeN|iaddr|iaddrA|idx|bin|beq|app|appG|aeq|sidx|cpy|mget|ment=>rw[X.ev_congr (fun i hi=>h i (.inl hi)),X.ev_congr (fun i hi=>h i (.inr hi))]
 case mkfn=>rw[zbu h]
 case slc =>
  rw[X.ev_congr (fun i hi=>h i (.inl (.inl (.inl hi))))]
  split
  ·rw[zhn (fun i hi=>h i (.inl (.inl (.inr hi)))) (fun i hi=>h i (.inl (.inr hi))) (fun i hi=>h i (.inr hi))]
  ·rw[zhn (fun i hi=>h i (.inl (.inl (.inr hi)))) (fun i hi=>h i (.inl (.inr hi))) (fun i hi=>h i (.inr hi))]
  ·rfl
theorem za1{e f:Env}{o:SOper}(h:∀ i∈o.uses,f i=e i):wanted f o=wanted e o:=by
 unfold wanted
 split
 ·rfl
 ·rename_i g want hg
  rw[h g (by simp[SOper.uses,hg])]
def SOp.root:SOp→Option Nat
 | .loadR _ _ r _=>some r
 | _=>none
def SOp.slot:SOp→Option Nat
 | .box s _|.alloc s _|.mksl s _ _ _|.bsliceR s _ _ _|.storeN s _ _ _=>some s
 | _=>none
def SOp.avoid:SOp→List Nat
 | .storeA _ rs _ _=>rs
 | .scallA rs _ _=>rs
 | _=>[]
def SOp.cls:SOp→Nat
 | .load _ _ true _=>1
 | .load _ _ false _=>3
 | .box _ _|.alloc _ _|.mksl _ _ _ _|.bsliceR _ _ _ _=>2
 | .app _ _ _ _ _=>5
 | .vcall true _ _=>3
 | .kcall true _ _=>8
 | .loadR _ _ _ _=>6
 | .storeA _ _ _ _=>7
 | .storeN _ _ _ _=>9
 | .scallA _ _ _=>10
 | .scallE _ _=>4
 | .mget _ _ _ _ _=>3
 | .store _ _ _|.scall _ _|.vcall false _ _|.s2b _ _|.mkmap _|.mput _ _ _ _|.ment _ _ _ _|.mst _ _ _|.rng _ _|.nxt _|.cpy _ _ _|.kcall false _ _|.appG _ _ _ _ _ _=>4
 | _=>0
def zeQ(base:Nat)(H Hb:Heap):Prop:=∀(id:Nat) (cs:List V),id<base→H[id]?=some (some (.cells cs))→Hb[id]?=some (some (.cells cs))
def zls(base:Nat)(H:Heap)(id:Nat):Prop:=(base≤id∧zay H id=true)∨∃ k,H[id]?=some (some (.zone k))
structure Chr (P:Program) (fm:Fm) (base:Nat) (o:SOper) (e:Env) (H:Heap) (e1:Env) (H1:Heap) (v:V):Prop where
 env:e1=e.put o.dst v
 same:∀ f,(∀ i∈o.uses,f i=e i)→SS P fm base o f H (f.put o.dst v) H1
 c0:o.op.cls=0→H1=H∧∀ f Hb,(∀ i∈o.uses,f i=e i)→SS P fm base o f Hb (f.put o.dst v) Hb
 c1:o.op.cls=1→H1=H∧∀ f Hb,(∀ i∈o.uses,f i=e i)→zeQ base H Hb→SS P fm base o f Hb (f.put o.dst v) Hb
 c2:o.op.cls=2→(H1=H∧∀ f Hb,(∀ i∈o.uses,f i=e i)→SS P fm base o f Hb (f.put o.dst v) Hb) ∨
  ∃ s blk,o.op.slot=some s∧(∃ cs,blk=Blk.cells cs)∧zay H (base+s)=true∧H1=H.set (base+s) (some blk)∧∀ f Hb,(∀ i∈o.uses,f i=e i)→zay Hb (base+s)=true→SS P fm base o f Hb (f.put o.dst v) (Hb.set (base+s) (some blk))
 c3:o.op.cls=3→H1=H
 c6:o.op.cls=6→H1=H∧∀ f Hb,(∀ i∈o.uses,f i=e i)→(∀ r id,o.op.root=some r→(e r).ptrId?=some id→Hb[id]?=H[id]?)→SS P fm base o f Hb (f.put o.dst v) Hb
 c7:o.op.cls=7→(H1=H∧∀ f Hb,(∀ i∈o.uses,f i=e i)→SS P fm base o f Hb (f.put o.dst v) Hb) ∨
  ∃ id blk,H1=H.set id (some blk)∧∀ r∈o.op.avoid,(e r).ptrId?≠some id
 c8:o.op.cls=8→zeQ base H H1∧zeQ base H1 H
 c5:o.op.cls=5→(H1=H∧∀ f Hb,(∀ i∈o.uses,f i=e i)→SS P fm base o f Hb (f.put o.dst v) Hb) ∨
  ∃ id k,zls base H id∧H1=H.set id (some (.zone k))∧∀ f Hb,(∀ i∈o.uses,f i=e i)→Hb[id]?=H[id]?→SS P fm base o f Hb (f.put o.dst v) (Hb.set id (some (.zone k)))
 c9:o.op.cls=9→(H1=H∧∀ f Hb,(∀ i∈o.uses,f i=e i)→SS P fm base o f Hb (f.put o.dst v) Hb) ∨
  ∃ s cs blk,o.op.slot=some s∧H[base+s]?=some (some (.cells cs))∧H1=H.set (base+s) (some blk)∧∀ f Hb,(∀ i∈o.uses,f i=e i)→Hb[base+s]?=H[base+s]?→SS P fm base o f Hb (f.put o.dst v) (Hb.set (base+s) (some blk))
 c10:o.op.cls=10→zjC e o.op.avoid H H1
theorem zxl{base:Nat}{e:Env}{s:SOp}{v:V}(h:ev1 base e H s=some (v,H1))(hc:s.cls=0):H1=H∧∀ Hb,ev1 base e Hb s=some (v,Hb):=by
 cases s<;>simp only[SOp.cls,reduceCtorEq,Nat.succ_ne_self] at hc<;>simp only[ev1] at h ⊢
 case mv|mkfn=>simp only[Option.some.injEq,Prod.mk.injEq] at h; obtain⟨rfl,rfl⟩:=h; simp
 case bin|un =>
  rw[Option.map_eq_some_iff] at h
  obtain⟨u,hu,h⟩:=h
  cases h
  exact⟨rfl,fun Hb=>by rw[hu]; rfl⟩
 case load sz ag old x=>cases old<;>simp[SOp.cls] at hc
 case vcall ro f xs=>cases h
 case kcall ro f xs=>cases h
 all_goals
  revert h
  repeat' split
  all_goals intro h
  all_goals first
   | (cases h; done)
   | (simp only[Option.some.injEq,Prod.mk.injEq] at h; obtain⟨rfl,rfl⟩:=h; exact⟨rfl,fun _=>rfl⟩)
   | (rw[Option.map_eq_some_iff] at h; obtain⟨u,hu,h⟩:=h; cases h; exact⟨rfl,fun Hb=>by rw[hu]; rfl⟩)
theorem zxm{base:Nat}{e:Env}{s:SOp}{v:V}(h:ev1 base e H s=some (v,H1))(hc:s.cls=1):H1=H∧∀ Hb:Heap,zeQ base H Hb→ev1 base e Hb s=some (v,Hb):=by
 cases s with
 | load sz ag old x =>
  cases old
  ·simp[SOp.cls] at hc
  ·simp only[ev1] at h ⊢
   split at h
   ·rename_i id off hp
    split at h
    ·cases h
    ·rename_i hlt
     split at h
     ·rename_i cs hb
      split at h
      ·rename_i hle
       rw[Option.map_eq_some_iff] at h
       obtain⟨u,hu,h⟩:=h
       cases h
       refine⟨rfl,fun Hb hag=>?_⟩
       rw[if_neg hlt,hag id cs (by simp at hlt; omega) hb]
       simp only
       rw[if_pos hle,hu]
       rfl
      ·cases h
     ·cases h
   ·split at h
    ·rename_i hle
     rw[Option.map_eq_some_iff] at h
     obtain⟨u,hu,h⟩:=h
     cases h
     refine⟨rfl,fun Hb _=>?_⟩
     rw[if_pos hle,hu]
     rfl
    ·cases h
   ·cases h
 | vcall ro f xs=>cases ro<;>simp[SOp.cls] at hc
 | kcall ro f xs=>cases ro<;>simp[SOp.cls] at hc
 | _=>simp[SOp.cls] at hc
theorem SS.chr{base:Nat}{o:SOper}{e e1:Env}(h:SS P fm base o e H e1 H1):∃ v,Chr P fm base o e H e1 H1 v:=by
 have sub:∀{f:Env},(∀ i∈o.uses,f i=e i)→∀ i∈o.op.uses,f i=e i:=fun h i hi=>h i (by simp[SOper.uses,hi])
 cases h with
 | ev hw hv =>
  rename_i v
  have all:∀ f Hb H2,(∀ i∈o.uses,f i=e i)→ev1 base e Hb o.op=some (v,H2)→SS P fm base o f Hb (f.put o.dst v) H2 :=
   fun f Hb H2 hf h=>SS.ev (by rw[za1 hf]; exact hw) (by rw[zst (sub hf)]; exact h)
  have hno:o.op.cls≠8:=by
   intro hc
   unfold SOp.cls at hc
   split at hc<;>first|(cases hc; done)|skip
   rename_i hop
   rw[hop] at hv; simp[ev1] at hv
  refine⟨v,rfl,fun f hf=>all f H H1 hf hv,?_,?_,?_,?_,?_,?_,fun hc=>absurd hc hno,?_,?_,?_⟩
  ·intro hc
   obtain⟨h1,h2⟩:=zxl hv hc
   exact⟨h1,fun f Hb hf=>all f Hb Hb hf (h2 Hb)⟩
  ·intro hc
   obtain⟨h1,h2⟩:=zxm hv hc
   exact⟨h1,fun f Hb hf hag=>all f Hb Hb hf (h2 Hb hag)⟩
  ·intro hc
   right
   cases hs:o.op with
   | box s x =>
    rw[hs] at hv
    simp only[ev1] at hv
    split at hv
    case h_2=>cases hv
    rename_i cs hcs
    split at hv
    case isFalse=>cases hv
    rename_i hf
    cases hv
    refine⟨s,.cells cs,rfl,⟨_,rfl⟩,hf,rfl,fun f Hb hfe hfree=>all f Hb _ hfe ?_⟩
    rw[hs]
    simp only[ev1,hcs]
    rw[if_pos hfree]
   | alloc s z =>
    rw[hs] at hv
    simp only[ev1] at hv
    split at hv
    case isFalse=>cases hv
    rename_i hf
    cases hv
    refine⟨s,.cells z,rfl,⟨_,rfl⟩,hf,rfl,fun f Hb hfe hfree=>all f Hb _ hfe ?_⟩
    rw[hs]
    simp only[ev1]
    rw[if_pos hfree]
   | mksl s bytes z x =>
    rw[hs] at hv
    simp only[ev1] at hv
    split at hv
    case h_2=>cases hv
    rename_i kd k hk
    split at hv
    case isFalse=>cases hv
    rename_i hf
    cases hv
    refine⟨s,.cells (List.replicate k.toNat z).flatten,rfl,⟨_,rfl⟩,hf.1,rfl,fun f Hb hfe hfree=>all f Hb _ hfe ?_⟩
    rw[hs]
    simp only[ev1,hk]
    rw[if_pos ⟨hfree,hf.2⟩]
   | bsliceR s k z ps =>
    rw[hs] at hv
    simp only[ev1] at hv
    split at hv
    case isFalse=>cases hv
    rename_i hf
    split at hv
    case h_2=>cases hv
    rename_i cs hcs
    cases hv
    refine⟨s,.cells cs,rfl,⟨_,rfl⟩,hf,rfl,fun f Hb hfe hfree=>all f Hb _ hfe ?_⟩
    rw[hs]
    simp only[ev1,hcs]
    rw[if_pos hfree]
   | load sz ag old x=>rw[hs] at hc; cases old<;>simp[SOp.cls] at hc
   | vcall ro f xs=>rw[hs] at hc; cases ro<;>simp[SOp.cls] at hc
   | kcall ro f xs=>rw[hs] at hc; cases ro<;>simp[SOp.cls] at hc
   | _=>rw[hs] at hc; simp[SOp.cls] at hc
  ·intro hc
   cases hs:o.op with
   | load sz ag old x =>
    rw[hs] at hv
    simp only[ev1] at hv
    revert hv
    repeat' split
    all_goals intro hv
    all_goals first
     | (cases hv; done)
     | (rw[Option.map_eq_some_iff] at hv; obtain⟨u,hu,hv⟩:=hv; cases hv; rfl)
   | vcall ro f xs=>rw[hs] at hv; simp[ev1] at hv
   | kcall ro f xs=>rw[hs] at hv; simp[ev1] at hv
   | mget ks ok z x k =>
    rw[hs] at hv
    simp only[ev1] at hv
    revert hv
    repeat' split
    all_goals intro hv
    all_goals first
     | (cases hv; done)
     | (cases hv; rfl)
   | _=>rw[hs] at hc; simp[SOp.cls] at hc
  ·intro hc
   cases hs:o.op with
   | loadR sz ag r x =>
    rw[hs] at hv
    have hv0:=hv
    simp only[ev1] at hv
    split at hv
    case h_2=>cases hv
    rename_i id off hp
    split at hv
    case isFalse=>cases hv
    rename_i hid
    have hsame:=zk6 hv
    subst hsame
    refine⟨rfl,fun f Hb hf hag=>all f Hb Hb hf ?_⟩
    have hg:=hag r id (by simp[SOp.root]) hid
    rw[hs]
    simp only[ev1,hp]
    rw[if_pos hid]
    unfold loadAt at hv ⊢
    rw[hg]
    revert hv
    repeat' split
    all_goals intro hv
    all_goals first
     | (cases hv; done)
     | (rw[Option.map_eq_some_iff] at hv ⊢; obtain⟨u,hu,hv⟩:=hv; cases hv; exact⟨_,hu,rfl⟩)
   | load sz ag old x=>rw[hs] at hc; cases old<;>simp[SOp.cls] at hc
   | vcall ro f xs=>rw[hs] at hc; cases ro<;>simp[SOp.cls] at hc
   | kcall ro f xs=>rw[hs] at hc; cases ro<;>simp[SOp.cls] at hc
   | _=>rw[hs] at hc; simp[SOp.cls] at hc
  ·intro hc
   cases hs:o.op with
   | storeA sz rs x y =>
    rw[hs] at hv
    simp only[ev1] at hv
    split at hv
    case h_2=>cases hv
    rename_i id off hp
    split at hv
    case isFalse=>cases hv
    rename_i hav
    obtain⟨cs,hh⟩:=zk7 hv
    refine .inr ⟨id,_,hh,fun r hr=>?_⟩
    rw[List.all_eq_true] at hav
    simpa using hav r hr
   | load sz ag old x=>rw[hs] at hc; cases old<;>simp[SOp.cls] at hc
   | vcall ro f xs=>rw[hs] at hc; cases ro<;>simp[SOp.cls] at hc
   | kcall ro f xs=>rw[hs] at hc; cases ro<;>simp[SOp.cls] at hc
   | _=>rw[hs] at hc; simp[SOp.cls] at hc
  ·intro hc
   cases hs:o.op with
   | app s sz bytes x y =>
    rw[hs] at hv
    simp only[ev1] at hv
    split at hv
    case h_2=>cases hv
    rename_i es tk fs hx hy
    split at hv
    ·rename_i hfs
     cases hv
     refine .inl ⟨rfl,fun f Hb hf=>all f Hb Hb hf ?_⟩
     rw[hs]
     simp only[ev1,hx,hy]
     rw[if_pos hfs]
    ·rename_i hfs
     split at hv
     case isFalse=>cases hv
     rename_i hg
     right
     cases tk with
     | no=>cases hv
     | full =>
      simp only at hv
      split at hv
      case isFalse=>cases hv
      rename_i hfree
      cases hv
      refine⟨base+s,_,.inl ⟨Nat.le_add_right _ _,hfree⟩,rfl,fun f Hb hf hid=>all f Hb _ hf ?_⟩
      rw[hs]
      simp only[ev1,hx,hy]
      rw[if_neg hfs,if_pos hg,if_pos (by rw[zaQ] at hfree ⊢; rw[hid]; exact hfree)]
     | own q =>
      simp only at hv
      split at hv
      case h_2=>cases hv
      rename_i k hq
      split at hv
      case isFalse=>cases hv
      rename_i hk
      cases hv
      refine⟨q,_,.inr ⟨k,hq⟩,rfl,fun f Hb hf hid=>all f Hb _ hf ?_⟩
      rw[hs]
      simp only[ev1,hx,hy]
      rw[if_neg hfs,if_pos hg,hid,hq]
      simp only
      rw[if_pos hk]
   | load sz ag old x=>rw[hs] at hc; cases old<;>simp[SOp.cls] at hc
   | vcall ro f xs=>rw[hs] at hc; cases ro<;>simp[SOp.cls] at hc
   | kcall ro f xs=>rw[hs] at hc; cases ro<;>simp[SOp.cls] at hc
   | _=>rw[hs] at hc; simp[SOp.cls] at hc
  ·intro hc
   cases hs:o.op with
   | storeN s sz x y =>
    rw[hs] at hv
    simp only[ev1] at hv
    split at hv
    case h_2=>cases hv
    rename_i id off hp
    split at hv
    case isFalse=>cases hv
    rename_i hid
    subst hid
    right
    unfold storeAt at hv
    split at hv
    case h_2=>cases hv
    rename_i ds cs hds hcs
    split at hv
    case isFalse=>cases hv
    rename_i hle
    cases hv
    refine⟨s,cs,_,rfl,hcs,rfl,fun f Hb hfe hag=>all f Hb _ hfe ?_⟩
    rw[hs]
    simp only[ev1,hp]
    rw[if_pos trivial]
    unfold storeAt
    rw[hds,hag,hcs]
    simp only
    rw[if_pos hle]
   | load sz ag old x=>rw[hs] at hc; cases old<;>simp[SOp.cls] at hc
   | vcall ro f xs=>rw[hs] at hc; cases ro<;>simp[SOp.cls] at hc
   | kcall ro f xs=>rw[hs] at hc; cases ro<;>simp[SOp.cls] at hc
   | _=>rw[hs] at hc; simp[SOp.cls] at hc
  ·intro hc
   exfalso
   unfold SOp.cls at hc
   split at hc<;>first|(cases hc; done)|skip
   rename_i hop
   rw[hop] at hv; simp[ev1] at hv
 | skip hw =>
  have all:∀ f Hb,(∀ i∈o.uses,f i=e i)→SS P fm base o f Hb (f.put o.dst .skp) Hb:=fun f Hb hf=>SS.skip (by rw[za1 hf]; exact hw)
  exact⟨.skp,rfl,fun f hf=>all f H hf,fun _=>⟨rfl,fun f Hb hf=>all f Hb hf⟩,fun _=>⟨rfl,fun f Hb hf _=>all f Hb hf⟩,fun _=>.inl ⟨rfl,fun f Hb hf=>all f Hb hf⟩,fun _=>rfl,fun _=>⟨rfl,fun f Hb hf _=>all f Hb hf⟩,fun _=>.inl ⟨rfl,fun f Hb hf=>all f Hb hf⟩,fun _=>⟨fun _ _ _ h=>h,fun _ _ _ h=>h⟩,fun _=>.inl ⟨rfl,fun f Hb hf=>all f Hb hf⟩,fun _=>.inl ⟨rfl,fun f Hb hf=>all f Hb hf⟩,fun _ _ _ _ _=>rfl⟩
 | pcall hw hop hf =>
  rename_i g xs r H2
  have all:∀ f Hb,(∀ i∈o.uses,f i=e i)→SS P fm base o f Hb (f.put o.dst (frz H2 r).out) Hb:=fun f Hb hfe =>
   SS.pcall (by rw[za1 hfe]; exact hw) hop (by rw[zbu (fun i hi=>sub hfe i (by rw[hop]; exact hi))]; exact hf)
  refine⟨(frz H2 r).out,rfl,fun f hfe=>all f H hfe,fun _=>⟨rfl,all⟩,?_,?_,?_,?_,?_,?_,?_,?_,?_⟩<;>(intro hc; exfalso; rw[hop] at hc; cases hc)
 | scall hw hop hf =>
  rename_i g xs r H2
  refine⟨r.cl H.length,rfl,fun f hfe=>SS.scall (by rw[za1 hfe]; exact hw) hop (by rw[zbu (fun i hi=>sub hfe i (by rw[hop]; exact hi))]; exact hf),?_,?_,?_,?_,?_,?_,?_,?_,?_,?_⟩ <;>
   (intro hc; exfalso; rw[hop] at hc; cases hc)
 | scallE hw hop hf hlv =>
  rename_i g xs r H2
  refine⟨r.cl H.length,rfl,fun f hfe=>?_,?_,?_,?_,?_,?_,?_,?_,?_,?_,?_⟩
  ·have hxs:=zbu (xs:=xs) (e:=e) (f:=f) (fun i hi=>sub hfe i (by rw[hop]; exact hi))
   exact SS.scallE (by rw[za1 hfe]; exact hw) hop (by rw[hxs]; exact hf) (by rw[hxs]; exact hlv)
  all_goals (intro hc; exfalso; rw[hop] at hc; cases hc)
 | scallA hw hop hf hlv =>
  rename_i rs g xs r H2
  have hrs:∀ f:Env,(∀ i∈o.uses,f i=e i)→∀ i∈rs,f i=e i:=fun f hfe i hi=>sub hfe i (by rw[hop]; simp only[SOp.uses,List.mem_append]; exact .inl hi)
  have hxs:∀ f:Env,(∀ i∈o.uses,f i=e i)→∀ i∈zbI xs,f i=e i:=fun f hfe i hi=>sub hfe i (by rw[hop]; simp only[SOp.uses,List.mem_append]; exact .inr hi)
  refine⟨r.cl H.length,rfl,fun f hfe=>SS.scallA (by rw[za1 hfe]; exact hw) hop (by rw[zbu (hxs f hfe)]; exact hf) (fun q hq id hid=>hlv q hq id (by rw[←hrs f hfe q hq]; exact hid)),?_,?_,?_,?_,?_,?_,?_,?_,?_,?_⟩
  case refine_10=>intro _; rw[hop]; exact hlv
  all_goals (intro hc; exfalso; rw[hop] at hc; cases hc)
 | kcall hw hop hf hro =>
  rename_i ro g xs r
  refine⟨r,rfl,fun f hfe=>SS.kcall (by rw[za1 hfe]; exact hw) hop (by rw[zbu (fun i hi=>sub hfe i (by rw[hop]; exact hi))]; exact hf) hro,?_,?_,?_,?_,?_,?_,?_,?_,?_,?_⟩
  case refine_7 =>
   intro hc
   rw[hop] at hc
   cases ro with
   | false=>simp[SOp.cls] at hc
   | true =>
    obtain⟨hb,ht⟩:=hro rfl
    have same:∀ id,id<base→H1[id]?=H[id]?:=fun id hid=>by
     have h1:(H1.take H.length)[id]?=H[id]?:=by rw[ht]
     rw[List.getElem?_take,if_pos (by omega)] at h1
     exact h1
    exact⟨fun id cs hid h=>by rw[same id hid]; exact h,fun id cs hid h=>by rw[same id hid] at h; exact h⟩
  all_goals (intro hc; exfalso; rw[hop] at hc; cases ro<;>simp[SOp.cls] at hc)
 | vcall hw hop hfx hf hro =>
  rename_i ro fx xs g cap r H2
  refine⟨r.cl H.length,rfl,fun f hfe=>?_,?_,?_,?_,?_,?_,?_,?_,?_,?_,?_⟩
  ·have hu:=sub hfe
   rw[hop] at hu
   simp only[SOp.uses,List.mem_append] at hu
   exact SS.vcall (by rw[za1 hfe]; exact hw) hop (by rw[X.ev_congr (fun i hi=>hu i (.inl hi))]; exact hfx) (by rw[zbu (fun i hi=>hu i (.inr hi))]; exact hf) hro
  ·intro hc; rw[hop] at hc; cases ro<;>simp[SOp.cls] at hc
  ·intro hc; rw[hop] at hc; cases ro<;>simp[SOp.cls] at hc
  ·intro hc; rw[hop] at hc; cases ro<;>simp[SOp.cls] at hc
  ·intro hc
   rw[hop] at hc
   cases ro with
   | true=>exact hro rfl
   | false=>simp[SOp.cls] at hc
  ·intro hc; rw[hop] at hc; cases ro<;>simp[SOp.cls] at hc
  ·intro hc; rw[hop] at hc; cases ro<;>simp[SOp.cls] at hc
  ·intro hc; rw[hop] at hc; cases ro<;>simp[SOp.cls] at hc
  ·intro hc; rw[hop] at hc; cases ro<;>simp[SOp.cls] at hc
  ·intro hc; rw[hop] at hc; cases ro<;>simp[SOp.cls] at hc
  ·intro hc; rw[hop] at hc; cases ro<;>simp[SOp.cls] at hc
 | ycall hw hop hfx hb hl ha hb1 hbo hb2 =>
  rename_i fx xs id e0 ps as bo e1 H1' f0 fps fas fbo x e2 H2 g0 gps gas gbo
  refine⟨.bool (decide (x=.nx)),rfl,fun f hfe=>?_,?_,?_,?_,?_,?_,?_,?_,?_,?_,?_⟩
  ·have hu:=sub hfe
   rw[hop] at hu
   simp only[SOp.uses,List.mem_append] at hu
   exact SS.ycall (by rw[za1 hfe]; exact hw) hop (by rw[X.ev_congr (fun i hi=>hu i (.inl hi))]; exact hfx) hb hl (by rw[zbu (fun i hi=>hu i (.inr hi))]; exact ha) hb1 hbo hb2
  all_goals (intro hc; exfalso; rw[hop] at hc; simp[SOp.cls] at hc)
def V.lit:V→Bool
 | .int _ _|.bool _|.str _|.nilp|.nilf|.nilm=>true
 | .vs [] .full=>true
 | _=>false
theorem zv7{c:V}{x:Value}(h:c.lit=true)(he:Enc M w c x):Enc M' w' c x:=by
 cases c with
 | vs es tk =>
  cases es with
  | cons e es=>simp[V.lit] at h
  | nil =>
   cases tk<;>simp[V.lit] at h
   simp only[Enc] at he ⊢
   obtain⟨p,a,cap,hv,hl,hs,ht⟩:=he
   refine⟨p,a,cap,hv,hl,?_,ht⟩
   cases a with
   | none=>exact hs
   | some ad=>exact⟨hs.1,hs.2.1,by simp only[zaq]⟩
 | _=>first|(simp[V.lit] at h; done)|(simpa only[Enc] using he)
theorem zoJ:∀{cs:List V} {xs:List Value},cs.all V.lit=true→EncL M w cs xs→EncL M' w' cs xs
 | [],_,_,e=>by simpa only[EncL] using e
 | c::cs,_,h,e=>by
  simp only[List.all_cons,Bool.and_eq_true] at h
  simp only[EncL] at e ⊢
  obtain⟨x,xs',hv,e1,e2⟩:=e
  exact⟨x,xs',hv,zv7 h.1 e1,zoJ h.2 e2⟩
structure More (M1 M2:Mm):Prop where
 al:∀ i,M1.al i=true→M2.al i=true∧M2.j i=M1.j i∧M2.z i=M1.z i
 lim:M2.lim=M1.lim
 fm:M2.fm=M1.fm
mutual
theorem Enc.more{M1 M2:Mm}(hm:More M1 M2):∀{c:V} {x:Value},Enc M1 w c x→Enc M2 w c x
 | .undef,_,_=>by simp only[Enc]
 | .skp,_,e=>by simpa only[Enc] using e
 | .any,_,e=>by simpa only[Enc] using e
 | .int _ _,_,e=>by simpa only[Enc] using e
 | .bool _,_,e=>by simpa only[Enc] using e
 | .str _,_,e=>by simpa only[Enc] using e
 | .nilp,_,e=>by simpa only[Enc] using e
 | .nilf,_,e=>by simpa only[Enc] using e
 | .nilm,_,e=>by simpa only[Enc] using e
 | .mp id,_,e=>by simp only[Enc] at e ⊢; obtain⟨a,b,_⟩:=hm.al id e.1; exact⟨a,by rw[b]; exact e.2⟩
 | .yld id,_,e=>by simp only[Enc] at e ⊢; obtain⟨a,b,_⟩:=hm.al id e.1; exact⟨a,by rw[b]; exact e.2⟩
 | .gs id k,_,e=>by simp only[Enc] at e ⊢; obtain⟨a,b,z⟩:=hm.al id e.1; exact⟨a,by rw[b,z]; exact e.2⟩
 | .ptr id off,_,e=>by simp only[Enc] at e ⊢; obtain⟨a,b,_⟩:=hm.al id e.1; exact⟨a,by rw[b]; exact e.2⟩
 | .rs id off k _,_,e=>by simp only[Enc] at e ⊢; obtain⟨a,b,_⟩:=hm.al id e.1; exact⟨a,by rw[b]; exact e.2⟩
 | .cptr cs,_,e=>by
  simp only[Enc] at e ⊢
  obtain⟨p,b,o,hv,e⟩:=e
  exact⟨p,b,o,hv,zar.more hm e⟩
 | .vs es tk,_,e=>by
  simp only[Enc] at e ⊢
  obtain⟨p,a,cap,hv,hc,hs,ht⟩:=e
  refine⟨p,a,cap,hv,hc,?_,?_⟩
  ·cases a with
   | none=>exact hs
   | some ad=>exact⟨hs.1,hs.2.1,zaq.more hm hs.2.2⟩
  ·cases tk with
   | no=>trivial
   | full=>exact ht
   | own q=>simp only[TkOk] at ht ⊢; obtain⟨a,_,z⟩:=hm.al q ht.1; rw[z]; exact⟨a,ht.2⟩
 | .fn f cap,_,e=>by
  simp only[Enc] at e ⊢
  obtain⟨xs,hv,e⟩:=e
  exact⟨xs,by rw[hm.fm]; exact hv,EncL.more hm e⟩
 | .agg cs,_,e=>by
  simp only[Enc] at e ⊢
  obtain⟨p,xs,hv,e⟩:=e
  exact⟨p,xs,hv,EncL.more hm e⟩
 | .tup cs,_,e=>by
  simp only[Enc] at e ⊢
  obtain⟨xs,hv,e⟩:=e
  exact⟨xs,hv,EncL.more hm e⟩
theorem EncL.more{M1 M2:Mm}(hm:More M1 M2):∀{cs:List V} {xs:List Value},EncL M1 w cs xs→EncL M2 w cs xs
 | [],_,e=>by simpa only[EncL] using e
 | c::cs,_,e=>by
  simp only[EncL] at e ⊢
  obtain⟨x,xs',hv,e1,e2⟩:=e
  exact⟨x,xs',hv,Enc.more hm e1,EncL.more hm e2⟩
theorem zar.more{M1 M2:Mm}(hm:More M1 M2){b:Nat}:∀{cs:List V} {o:Nat},zar M1 w b cs o→zar M2 w b cs o
 | [],_,_=>by simp only[zar]
 | c::cs,o,e=>by
  simp only[zar] at e ⊢
  obtain⟨⟨x,hx,rd,e1⟩,e2⟩:=e
  exact⟨⟨x,hx,fun l hl=>rd l (by rw[←hm.lim]; exact hl),Enc.more hm e1⟩,zar.more hm e2⟩
theorem zaq.more{M1 M2:Mm}(hm:More M1 M2){b:Nat}:∀{es:List (List V)} {o:Nat},zaq M1 w b es o→zaq M2 w b es o
 | [],_,_=>by simp only[zaq]
 | e::es,o,k=>by
  simp only[zaq] at k ⊢
  exact⟨zar.more hm k.1,zaq.more hm k.2⟩
end
theorem BRel.more{M1 M2:Mm}(hm:More M1 M2){id:Nat}{blk:Blk}(hj:M2.j id=M1.j id)(hz:M2.z id=M1.z id)(h:BRel M1 w id blk):BRel M2 w id blk:=by
 cases blk with
 | cells cs =>
  simp only[BRel,hj,hm.lim] at h ⊢
  obtain⟨a,b,xs,e,c,d⟩:=h
  exact⟨a,b,xs,e,c,EncL.more hm d⟩
 | zone k=>simpa only[BRel,hz,hm.lim] using h
 | froz cs =>
  simp only[BRel,hj,hm.lim] at h ⊢
  obtain⟨a,b,xs,e,c,d⟩:=h
  exact⟨a,b,xs,e,c,EncL.more hm d⟩
 | map es =>
  simp only[BRel,hj,hm.lim] at h ⊢
  obtain⟨b,ents,c,d,d',f⟩:=h
  exact⟨b,ents,c,EncL.more hm d,EncL.more hm d',f⟩
 | siter t pos=>simpa only[BRel,hj,hm.lim] using h
 | grow cs sz =>
  simp only[BRel,hj,hz,hm.lim] at h ⊢
  obtain⟨a,b,z1,z2,xs,e,c,s,d⟩:=h
  exact⟨a,b,z1,z2,xs,e,c,s,EncL.more hm d⟩
 | loop e0 ps as bo st =>
  simp only[BRel,hj,hm.lim,hm.fm] at h ⊢
  obtain⟨a,r,hc,h1,h2,h3,h4,h5⟩:=h
  exact⟨a,r,hc,h1,h2,h3,h4,fun p hp=>Enc.more hm (h5 p hp)⟩
theorem BRel.upto(n:Nat){id:Nat}{blk:Blk}(h:BRel M w id blk):BRel (M.upto n) w id (blk.cl n):=by
 cases blk with
 | cells cs =>
  simp only[BRel,Blk.cl] at h ⊢
  obtain⟨a,b,xs,e,c,d⟩:=h
  refine⟨fun v hv=>?_,b,xs,e,c,by rw[zan,List.length_map,←zan]; exact EncL.upto n d⟩
  rw[zan,List.mem_map] at hv
  obtain⟨c',hc',rfl⟩:=hv
  exact V.cl_scal n c' (a c' hc')
 | grow cs sz =>
  simp only[BRel,Blk.cl] at h ⊢
  obtain⟨a,b,z1,z2,xs,e,c,s,d⟩:=h
  refine⟨fun v hv=>?_,b,z1,z2,xs,e,c,s,by rw[zan,List.length_map,←zan]; exact EncL.upto n d⟩
  rw[zan,List.mem_map] at hv
  obtain⟨c',hc',rfl⟩:=hv
  exact V.cl_scal n c' (a c' hc')
 | zone k=>simpa only[BRel,Blk.cl,Mm.upto] using h
 | froz cs =>
  simp only[BRel,Blk.cl] at h ⊢
  obtain⟨a,b,xs,e,c,d⟩:=h
  refine⟨fun v hv=>?_,by rw[zan,List.length_map]; exact b,xs,e,c,by rw[zan,List.length_map,←zan]; exact EncL.upto n d⟩
  rw[zan,List.mem_map] at hv
  obtain⟨c',hc',rfl⟩:=hv
  rw[V.cl_pure n c' (a c' hc')]; exact a c' hc'
 | map es =>
  simp only[BRel,Blk.cl] at h ⊢
  obtain⟨b,ents,c,d,d',f⟩:=h
  refine⟨b,ents,by rw[List.length_map]; exact c,?_,?_,f⟩
  ·have:=EncL.upto n d
   rw[zan,List.map_map] at this
   rw[List.map_map]; exact this
  ·have:=EncL.upto n d'
   rw[zan,List.map_map] at this
   rw[List.map_map]; exact this
 | siter t pos=>simpa only[BRel,Blk.cl,Mm.upto] using h
 | loop e0 ps as bo st =>
  simp only[BRel,Blk.cl] at h ⊢
  obtain⟨a,r,hc,h1,h2,h3,h4,h5⟩:=h
  refine⟨a,r,hc,h1,h2,h3,h4,fun p hp=>?_⟩
  obtain⟨q,hq,rfl⟩:=List.mem_map.1 hp
  exact Enc.upto n (h5 q hq)
theorem FOK.frame{base k f:Nat}{args:List V}{r:V}{z:List V}(hf:FOK P fm f args H r H1)(hk:H[k]?=some none)(hbk:base≤k)(ha:∀ v∈args,v.cl base=v)(hH:H.map (Option.map (Blk.cl base))=H)(hk1:H1[k]?=some none)
  (hz:z.all V.lit=true):FOK P fm f args (H.set k (some (.cells z))) r (H1.set k (some (.cells z))):=by
 have hlt:k<H.length:=(List.getElem?_eq_some_iff.1 hk).1
 have hlt1:k<H1.length:=(List.getElem?_eq_some_iff.1 hk1).1
 refine⟨by simpa using hf.1,fun M w vargs hm hr hargs=>?_⟩
 have get:∀ id,id≠k→(H.set k (some (Blk.cells z)))[id]?=H[id]?:=fun id h=>getElem?_set_ne h
 have get1:∀ id,id≠k→(H1.set k (some (Blk.cells z)))[id]?=H1[id]?:=fun id h=>getElem?_set_ne h
 have gk:(H.set k (some (Blk.cells z)))[k]?=some (some (.cells z)):=List.getElem?_set_self hlt
 have gk1:(H1.set k (some (Blk.cells z)))[k]?=some (some (.cells z)):=List.getElem?_set_self hlt1
 obtain⟨M0,hM0⟩:∃ M0:Mm,M0={ M with al:=fun i=>decide (i≠k)&&M.al i }:=⟨_,rfl⟩
 have more0:More (M.upto base) M0:=⟨fun i hi=>by
  subst hM0
  simp only[Mm.upto,Bool.and_eq_true,decide_eq_true_eq] at hi ⊢
  exact⟨⟨by omega,hi.2⟩,trivial,trivial⟩,by subst hM0; rfl,by subst hM0; rfl⟩
 have cls:∀{c:V} {x:Value},c.cl base=c→Enc M w c x→Enc M0 w c x:=fun hc he=>by
  have:=Enc.more more0 (Enc.upto base he)
  rwa[hc] at this
 have clsB:∀{id:Nat} {blk:Blk},id≠k→H[id]?=some (some blk)→BRel M w id blk→BRel M0 w id blk:=fun{id blk} hne hb h=>by
  have hcl:blk.cl base=blk:=by
   have h1:(H.map (Option.map (Blk.cl base)))[id]?=H[id]?:=by rw[hH]
   rw[List.getElem?_map,hb] at h1
   simpa using h1
  have:=BRel.more more0 (id:=id) (by subst hM0; rfl) (by subst hM0; rfl) (BRel.upto base h)
  rwa[hcl] at this
 have hmk:M.al k=true:=(hr.dom k).2 ⟨_,gk⟩
 have hbk':=hr.rel k _ gk
 simp only[BRel] at hbk'
 obtain⟨hzs,hzl,xs,te,hzh,hze⟩:=hbk'
 have bl0:∀ id,id≠k→blOf M0 H id=blOf M (H.set k (some (.cells z))) id:=fun id hne=>by subst hM0; simp only[blOf,get id hne]
 have blk:blOf M (H.set k (some (.cells z))) k=some (M.j k):=by simp[blOf,gk]
 have blk0:blOf M0 H k=none:=by simp[blOf,hk]
 have hno:¬zck M0 H (M.j k):=by
  rintro⟨id,hid⟩
  have hne:id≠k:=fun e=>by rw[e,blk0] at hid; cases hid
  rw[bl0 id hne] at hid
  exact hne (hr.inj id k _ hid blk)
 have own0:∀ b,zck M0 H b→zck M (H.set k (some (.cells z))) b:=by
  rintro b ⟨id,hid⟩
  have hne:id≠k:=fun e=>by rw[e,blk0] at hid; cases hid
  exact⟨id,by rw[←bl0 id hne]; exact hid⟩
 have hr0:HRel M0 w H:=by
  refine⟨fun id=>?_,fun id b hb=>?_,fun id id' b h1 h2=>?_,fun g cs hg=>?_⟩
  ·by_cases hne:id=k
   ·subst hne
    rw[hk]
    subst hM0
    simp
   ·have:=hr.dom id
    rw[get id hne] at this
    rw[←this]
    subst hM0
    simp[hne]
  ·have hne:id≠k:=fun e=>by rw[e,hk] at hb; cases hb
   exact clsB hne hb (hr.rel id b (by rw[get id hne]; exact hb))
  ·have hne:id≠k:=fun e=>by rw[e,blk0] at h1; cases h1
   have hne':id'≠k:=fun e=>by rw[e,blk0] at h2; cases h2
   rw[bl0 id hne] at h1
   rw[bl0 id' hne'] at h2
   exact hr.inj id id' b h1 h2
  ·have hg':M.fm.gl g=some cs:=by subst hM0; exact hg
   exact cls (by simp only[V.cl]) (hr.glo g cs hg')
 have hargs0:EncL M0 w args vargs:=zcp (zah hargs) fun i c x hc hx=>by
  obtain⟨x',hx',he⟩:=zaR hargs hc
  rw[hx] at hx'; cases hx'
  exact cls (ha c (List.mem_of_getElem? hc)) he
 obtain⟨hF,hcall⟩:=hf.2 M0 w vargs (by subst hM0; exact hm) hr0 hargs0
 refine⟨hF,hcall.mono ?_⟩
 rintro en w' ⟨rv,M',rfl,he,hs,hi,hr'⟩
 have hal1:M'.al k=false:=by
  cases h:M'.al k with
  | false=>rfl
  | true=>obtain⟨b,hb⟩:=(hr'.dom k).1 h; rw[hk1] at hb; cases hb
 obtain⟨M2,hM2⟩:∃ M2:Mm,M2={ M' with al:=fun i=>decide (i=k)||M'.al i,j:=fun i=>if i=k then M.j k else M'.j i,z:=fun i=>if i=k then M.z k else M'.z i }:=⟨_,rfl⟩
 have j2:M2.j k=M.j k:=by subst hM2; simp
 have more2:More M' M2:=⟨fun i hi=>by
  have hne:i≠k:=fun e=>by rw[e,hal1] at hi; cases hi
  subst hM2
  simp[hi,hne],by subst hM2; rfl,by subst hM2; rfl⟩
 have hsz:M.j k<w.heap.size:=(Array.getElem?_eq_some_iff.1 hzh).1
 have hzh':w'.heap[M.j k]?=w.heap[M.j k]?:=hs.same _ hsz hno
 have hl':M'.lim (M.j k)=some 0:=by
  rw[hs.limo _ hsz hno]; subst hM0; exact hzl
 have bl2:∀ id,id≠k→blOf M2 (H1.set k (some (.cells z))) id=blOf M' H1 id:=fun id hne=>by subst hM2; simp only[blOf,get1 id hne,hne,if_false]
 have bl2k:blOf M2 (H1.set k (some (.cells z))) k=some (M.j k):=by simp[blOf,gk1,j2]
 have hno1:¬zck M' H1 (M.j k):=fun ho=>hno (hs.own _ hsz ho)
 refine⟨rv,M2,rfl,Enc.more more2 he,?_,?_,?_⟩
 ·exact{
   os:=hs.os
   tape:=hs.tape
   output:=hs.output
   size:=hs.size
   same:=fun b hb ho=>hs.same b hb fun h=>ho (own0 b h)
   cells:=fun b l o hb hl ho=>hs.cells b l o hb (by subst hM0; exact hl) ho
   limn:=fun b hb hl=>by
    have:=hs.limn b hb (by subst hM0; exact hl)
    subst hM2; exact this
   lims:=fun b l hb hl=>by
    have:=hs.lims b l hb (by subst hM0; exact hl)
    subst hM2; exact this
   limo:=fun b hb ho=>by
    have:=hs.limo b hb fun h=>ho (own0 b h)
    subst hM2; subst hM0; exact this
   own:=fun b hb ho=>by
    obtain⟨id,hid⟩:=ho
    by_cases hne:id=k
    ·subst hne
     rw[bl2k] at hid
     cases hid
     exact⟨_,blk⟩
    ·rw[bl2 id hne] at hid
     exact own0 b (hs.own b hb ⟨id,hid⟩)
   fm:=by
    have:=hs.fm
    subst hM2; subst hM0; exact this }
 ·intro id hid hal
  by_cases hne:id=k
  ·subst hne
   subst hM2
   simp[Zle.refl]
  ·have h0:M0.al id=true:=by subst hM0; simp[hne,hal]
   obtain⟨a,b,c⟩:=hi id (by simpa using hid) h0
   subst hM2
   subst hM0
   simp[hne,a,b,c]
 ·refine⟨fun id=>?_,fun id b hb=>?_,fun id id' b h1 h2=>?_,fun g cs hg=>?_⟩
  ·by_cases hne:id=k
   ·subst hne
    rw[gk1]
    subst hM2
    simp
   ·have:=hr'.dom id
    rw[get1 id hne,←this]
    subst hM2
    simp[hne]
  ·by_cases hne:id=k
   ·subst hne
    rw[gk1] at hb
    cases hb
    simp only[BRel,j2]
    refine⟨hzs,by subst hM2; exact hl',xs,te,hzh'.trans hzh,zoJ hz hze⟩
   ·rw[get1 id hne] at hb
    exact BRel.more more2 (by subst hM2; simp[hne]) (by subst hM2; simp[hne]) (hr'.rel id b hb)
  ·by_cases hne:id=k
   ·subst hne
    rw[bl2k] at h1
    cases h1
    by_cases hne':id'=id
    ·exact hne'.symm
    ·rw[bl2 id' hne'] at h2
     exact absurd ⟨id',h2⟩ hno1
   ·by_cases hne':id'=k
    ·subst hne'
     rw[bl2k] at h2
     cases h2
     rw[bl2 id hne] at h1
     exact absurd ⟨id,h1⟩ hno1
    ·rw[bl2 id hne] at h1
     rw[bl2 id' hne'] at h2
     exact hr'.inj id id' b h1 h2
  ·have hg':M'.fm.gl g=some cs:=by subst hM2; exact hg
   exact Enc.more more2 (hr'.glo g cs hg')
def zoK(a b:Nat):Bool :=
 match a,b with
 | 0,_=>true
 | _,0=>true
 | 1,1|1,2|2,1|2,2|1,3|3,1|3,3|1,5|5,1|2,5|5,2|6,6|6,7|7,6|1,8|8,1|1,9|9,1|2,9|9,2|9,9|6,10|10,6=>true
 | _,_=>false
def zgQ(o p:SOp):Bool :=
 (match o.root with|some r=>(p.cls !=7&&p.cls !=10)||p.avoid.contains r|none=>true)&&(match p.root with|some r=>(o.cls !=7&&o.cls !=10)||o.avoid.contains r|none=>true) &&
  (match o.slot,p.slot with|some s,some s'=>s !=s'||(o.cls !=9&&p.cls !=9)|_,_=>true)
def zsu(o p:SOper):Bool :=
 match o.op,p.op with
 | .scallE _ _,.alloc _ z=>z.all V.lit&&(match o.dst with|some d=>!(p.uses.contains d)&&p.dst !=some d|none=>true)&&(match p.dst with|some d=>!(o.uses.contains d)|none=>true)
 | _,_=>false
def zoL(o p:SOper):Bool :=
 zgQ o.op p.op&&zoK o.op.cls p.op.cls&&(match o.dst with|some d=>!(p.uses.contains d)&&p.dst !=some d|none=>true)&&(match p.dst with|some d=>!(o.uses.contains d)|none=>true)
def zl4(o p:SOper):Bool:=zoL o p||zsu o p
theorem zhJ{e:Env}{d:Option Nat}{v:V}{us:List Nat}(h:(match d with|some d=>!(us.contains d)|none=>true)=true):∀ i∈us,e.put d v i=e i:=by
 intro i hi
 cases d with
 | none=>rfl
 | some d =>
  simp only[Bool.not_eq_true',List.contains_eq_mem,decide_eq_false_iff_not] at h
  rw[Env.put_some,if_neg (fun(he:i=d)=>h (by rw[←he]; exact hi))]
theorem zoM{e:Env}{d d':Option Nat}{u v:V}(h:∀ k,d=some k→d'≠some k):(e.put d u).put d' v=(e.put d' v).put d u:=by
 cases d with
 | none=>rfl
 | some k =>
  cases d' with
  | none=>rfl
  | some k' =>
   have:=h k rfl
   funext i
   simp only[Env.put_some]
   by_cases h1:i=k<;>by_cases h2:i=k'<;>simp_all
theorem SS.swap0{base:Nat}{o p:SOper}{e e1 e2:Env}(h:SS P fm base o e H e1 H1)(k:SS P fm base p e1 H1 e2 H2)(hi:zoL o p=true) :
  ∃ f Hb,SS P fm base p e H f Hb∧SS P fm base o f Hb e2 H2:=by
 obtain⟨u,hu⟩:=h.chr
 obtain⟨v,hv⟩:=k.chr
 unfold zoL at hi
 simp only[Bool.and_eq_true] at hi
 obtain⟨⟨⟨hap,hc⟩,h1⟩,h2⟩:=hi
 have ha1:∀ i∈p.uses,e1 i=e i:=by
  rw[hu.env]
  refine zhJ ?_
  cases hd:o.dst with
  | none=>rfl
  | some d=>rw[hd] at h1; simp only[Bool.and_eq_true] at h1; exact h1.1
 have ha1':∀ i∈p.uses,e i=e1 i:=fun i hi=>(ha1 i hi).symm
 have ha2:∀ i∈o.uses,(e.put p.dst v) i=e i:=zhJ h2
 have hcomm:(e.put p.dst v).put o.dst u=e2:=by
  rw[hv.env,hu.env]
  exact(zoM (fun k hk hk'=>by rw[hk] at h1; simp[hk'] at h1)).symm
 -- heaps that stay
 have fin0:H1=H→H2=H1→∃ f Hb,SS P fm base p e H f Hb∧SS P fm base o f Hb e2 H2:=by
  intro e1' e2'
  subst e1'; subst e2'
  exact⟨_,_,hv.same e ha1',by have:=hu.same _ ha2; rw[hcomm] at this; exact this⟩
 have cp:∀ a b:Nat,zoK a b=true→a=0∨b=0∨(a=1∧b=1)∨(a=1∧b=2)∨(a=2∧b=1)∨(a=2∧b=2)∨(a=1∧b=3)∨(a=3∧b=1)∨(a=3∧b=3)∨(a=1∧b=5)∨(a=5∧b=1)∨(a=2∧b=5)∨(a=5∧b=2)∨(a=6∧b=6)∨(a=6∧b=7)∨(a=7∧b=6)∨(a=1∧b=8)∨(a=8∧b=1)∨(a=1∧b=9)∨(a=9∧b=1)∨(a=2∧b=9)∨(a=9∧b=2)∨(a=9∧b=9)∨(a=6∧b=10)∨(a=10∧b=6):=by
  intro a b h
  unfold zoK at h
  split at h<;>simp_all
 have cs_set:∀(s:Nat) (blk:Blk) (Hb:Heap),zeQ base Hb (Hb.set (base+s) (some blk)):=fun s blk Hb id cs hid h=>by rw[getElem?_set_ne (by omega)]; exact h
 have cs_set':∀(s:Nat) (blk:Blk) (Hb:Heap),zeQ base (Hb.set (base+s) (some blk)) Hb:=fun s blk Hb id cs hid h=>by rw[getElem?_set_ne (by omega)] at h; exact h
 have zs_set:∀(id k:Nat) (Hb:Heap),zls base Hb id→zeQ base Hb (Hb.set id (some (.zone k))):=by
  intro id k Hb hz j cs hj h
  by_cases hji:j=id
  ·subst hji
   rcases hz with⟨h1,_⟩|⟨k',h1⟩
   ·omega
   ·rw[h1] at h; cases h
  ·rw[getElem?_set_ne hji]; exact h
 have zs_set':∀(id k:Nat) (Hb:Heap),zls base Hb id→zeQ base (Hb.set id (some (.zone k))) Hb:=by
  intro id k Hb hz j cs hj h
  by_cases hji:j=id
  ·subst hji
   have hlt:j<Hb.length:=by
    rcases hz with⟨_,h1⟩|⟨k',h1⟩
    ·exact zeO h1
    ·exact(List.getElem?_eq_some_iff.1 h1).1
   rw[List.getElem?_set_self hlt] at h; cases h
  ·rw[getElem?_set_ne hji] at h; exact h
 have slots:∀ s s',o.op.slot=some s→p.op.slot=some s'→o.op.cls=9∨p.op.cls=9→base+s'≠base+s:=by
  intro s s' h1 h2 h3 he
  have hss:s'=s:=by omega
  subst hss
  unfold zgQ at hap
  simp only[h1,h2,Bool.and_eq_true] at hap
  rcases h3 with h3|h3<;>simp[h3] at hap
 rcases cp _ _ hc with h0|h0|⟨ha,hb⟩|⟨ha,hb⟩|⟨ha,hb⟩|⟨ha,hb⟩|⟨ha,hb⟩|⟨ha,hb⟩|⟨ha,hb⟩|⟨ha,hb⟩|⟨ha,hb⟩|⟨ha,hb⟩|⟨ha,hb⟩|⟨ha,hb⟩|⟨ha,hb⟩|⟨ha,hb⟩|⟨ha,hb⟩|⟨ha,hb⟩|⟨ha,hb⟩|⟨ha,hb⟩|⟨ha,hb⟩|⟨ha,hb⟩|⟨ha,hb⟩|⟨ha,hb⟩|⟨ha,hb⟩
 ·obtain⟨hh,hall⟩:=hu.c0 h0
  subst hh
  exact⟨_,_,hv.same e ha1',by have:=hall _ H2 ha2; rw[hcomm] at this; exact this⟩
 ·obtain⟨hh,hall⟩:=hv.c0 h0
  subst hh
  exact⟨_,_,hall e H ha1',by have:=hu.same _ ha2; rw[hcomm] at this; exact this⟩
 ·exact fin0 (hu.c1 ha).1 (hv.c1 hb).1
 ·obtain⟨hh,hall⟩:=hu.c1 ha
  subst hh
  rcases hv.c2 hb with⟨hh2,_⟩|⟨s,blk,hsl,⟨bcs,hbc⟩,hfree,hh2,hallA⟩
  ·exact fin0 rfl hh2
  ·subst hh2
   exact⟨_,_,hv.same e ha1',by have:=hall _ (H1.set (base+s) (some blk)) ha2 (cs_set s blk H1); rw[hcomm] at this; exact this⟩
 ·obtain⟨hh,hall⟩:=hv.c1 hb
  subst hh
  rcases hu.c2 ha with⟨hh2,_⟩|⟨s,blk,hsl,⟨bcs,hbc⟩,hfree,hh2,hallA⟩
  ·exact fin0 hh2 rfl
  ·subst hh2
   exact⟨_,_,hall e H ha1' (cs_set' s blk H),by have:=hu.same _ ha2; rw[hcomm] at this; exact this⟩
 ·rcases hu.c2 ha with⟨hh,hallU⟩|⟨s,blk,hsl,⟨bcs,hbc⟩,hfree,hh,hallA⟩
  ·subst hh
   exact⟨_,_,hv.same e ha1',by have:=hallU _ H2 ha2; rw[hcomm] at this; exact this⟩
  ·rcases hv.c2 hb with⟨hh2,hallV⟩|⟨s',blk',hsl',⟨bcs',hbc'⟩,hfree',hh2,hallA'⟩
   ·subst hh2
    exact⟨_,_,hallV e H ha1',by have:=hu.same _ ha2; rw[hcomm] at this; exact this⟩
   ·subst hh
    subst hh2
    have hne:base+s'≠base+s:=by
     intro he
     rw[he] at hfree'
     have:=zaQ.1 hfree'
     rw[List.getElem?_set_self (zeO hfree)] at this
     cases this
    have hf1:zay H (base+s')=true:=by
     rw[zaQ] at hfree' ⊢
     rwa[getElem?_set_ne hne] at hfree'
    have hf2:zay (H.set (base+s') (some blk')) (base+s)=true:=by
     rw[zaQ] at hfree ⊢
     rwa[getElem?_set_ne (fun h=>hne h.symm)]
    have:=hallA _ (H.set (base+s') (some blk')) ha2 hf2
    rw[hcomm,List.set_comm _ _ hne] at this
    exact⟨_,_,hallA' e H ha1' hf1,this⟩
 ·exact fin0 (hu.c1 ha).1 (hv.c3 hb)
 ·exact fin0 (hu.c3 ha) (hv.c1 hb).1
 ·exact fin0 (hu.c3 ha) (hv.c3 hb)
 ·-- a load, an append
  obtain⟨hh,hall⟩:=hu.c1 ha
  subst hh
  rcases hv.c5 hb with⟨hh2,_⟩|⟨id,kz,hz,hh2,hallK⟩
  ·exact fin0 rfl hh2
  ·subst hh2
   exact⟨_,_,hv.same e ha1',by have:=hall _ (H1.set id (some (.zone kz))) ha2 (zs_set id kz H1 hz); rw[hcomm] at this; exact this⟩
 ·obtain⟨hh,hall⟩:=hv.c1 hb
  subst hh
  rcases hu.c5 ha with⟨hh2,_⟩|⟨id,kz,hz,hh2,hallK⟩
  ·exact fin0 hh2 rfl
  ·subst hh2
   exact⟨_,_,hall e H ha1' (zs_set' id kz H hz),by have:=hu.same _ ha2; rw[hcomm] at this; exact this⟩
 ·-- a new block, an append
  rcases hu.c2 ha with⟨hh,hallU⟩|⟨s,blk,hsl,⟨bcs,hbc⟩,hfree,hh,hallA⟩
  ·subst hh
   exact⟨_,_,hv.same e ha1',by have:=hallU _ H2 ha2; rw[hcomm] at this; exact this⟩
  ·rcases hv.c5 hb with⟨hh2,hallV⟩|⟨id,kz,hz,hh2,hallK⟩
   ·subst hh2
    exact⟨_,_,hallV e H ha1',by have:=hu.same _ ha2; rw[hcomm] at this; exact this⟩
   ·subst hh
    subst hh2
    by_cases hne:id=base+s
    ·-- the block can be a zone no more than it is free: only where the block made was a zone
     subst hne
     exfalso
     rcases hz with⟨_,h1⟩|⟨k',h1⟩
     ·rw[zaQ,List.getElem?_set_self (zeO hfree)] at h1; cases h1
     ·rw[List.getElem?_set_self (zeO hfree)] at h1
      rw[hbc] at h1; cases h1
    ·have hid:H[id]?=(H.set (base+s) (some blk))[id]?:=(getElem?_set_ne hne).symm
     have hf2:zay (H.set id (some (.zone kz))) (base+s)=true:=by
      rw[zaQ] at hfree ⊢
      rwa[getElem?_set_ne (fun h=>hne h.symm)]
     have:=hallA _ (H.set id (some (.zone kz))) ha2 hf2
     rw[hcomm,List.set_comm _ _ hne] at this
     exact⟨_,_,hallK e H ha1' hid,this⟩
 ·rcases hv.c2 hb with⟨hh,hallU⟩|⟨s,blk,hsl,⟨bcs,hbc⟩,hfree,hh,hallA⟩
  ·subst hh
   exact⟨_,_,hallU e H ha1',by have:=hu.same _ ha2; rw[hcomm] at this; exact this⟩
  ·rcases hu.c5 ha with⟨hh2,hallV⟩|⟨id,kz,hz,hh2,hallK⟩
   ·subst hh2
    exact⟨_,_,hv.same e ha1',by have:=hallV _ H2 ha2; rw[hcomm] at this; exact this⟩
   ·subst hh2
    subst hh
    have hlt:id<H.length:=by
     rcases hz with⟨_,h1⟩|⟨k',h1⟩
     ·exact zeO h1
     ·exact(List.getElem?_eq_some_iff.1 h1).1
    have hne:base+s≠id:=by
     intro h
     rw[h,zaQ,List.getElem?_set_self hlt] at hfree
     cases hfree
    have hf1:zay H (base+s)=true:=by
     rw[zaQ] at hfree ⊢
     rwa[getElem?_set_ne hne] at hfree
    have:=hallK _ (H.set (base+s) (some blk)) ha2 (getElem?_set_ne (fun h=>hne h.symm))
    rw[hcomm,List.set_comm _ _ hne] at this
    exact⟨_,_,hallA e H ha1' hf1,this⟩
 ·exact fin0 (hu.c6 ha).1 (hv.c6 hb).1
 ·-- a load of one block, a store elsewhere
  obtain⟨hh,hall⟩:=hu.c6 ha
  subst hh
  have hroot:∀ r,o.op.root=some r→r∈p.op.avoid∧r∈p.uses:=by
   intro r hr
   simp only[zgQ,hr,hb,Bool.and_eq_true] at hap
   have h3:r∈p.op.avoid:=by simpa using hap.1.1
   refine⟨h3,?_⟩
   unfold SOp.avoid at h3
   split at h3
   ·rename_i hpo; simp only[SOper.uses,hpo,SOp.uses,List.mem_append]; exact .inl (.inl (.inl h3))
   ·rename_i hpo; simp only[SOper.uses,hpo,SOp.uses,List.mem_append]; exact .inl (.inl h3)
   ·cases h3
  rcases hv.c7 hb with⟨hh2,_⟩|⟨id,blk,hh2,hav⟩
  ·exact fin0 rfl hh2
  ·have:=hall _ H2 ha2 fun r idr hr hid=>by
    obtain⟨h3,h4⟩:=hroot r hr
    have h5:=hav r h3
    rw[ha1 r h4] at h5
    rw[hh2,getElem?_set_ne (fun he=>h5 (by rw[hid,he]))]
   exact⟨_,_,hv.same e ha1',by rw[hcomm] at this; exact this⟩
 ·obtain⟨hh,hall⟩:=hv.c6 hb
  subst hh
  have hroot:∀ r,p.op.root=some r→r∈o.op.avoid∧r∈p.uses:=by
   intro r hr
   simp only[zgQ,hr,ha,Bool.and_eq_true] at hap
   have h3:r∈o.op.avoid:=by simpa using hap.1.2
   refine⟨h3,?_⟩
   unfold SOp.root at hr
   split at hr
   ·rename_i hpo; cases hr; simp[SOper.uses,hpo,SOp.uses]
   ·cases hr
  rcases hu.c7 ha with⟨hh2,_⟩|⟨id,blk,hh2,hav⟩
  ·exact fin0 hh2 rfl
  ·refine⟨_,_,hall e H ha1' fun r idr hr hid=>?_,by have:=hu.same _ ha2; rw[hcomm] at this; exact this⟩
   obtain⟨h3,h4⟩:=hroot r hr
   have h5:=hav r h3
   rw[ha1 r h4] at hid
   rw[hh2,getElem?_set_ne (fun he=>h5 (by rw[hid,he]))]
 ·-- a load, a call that makes blocks
  obtain⟨hh,hall⟩:=hu.c1 ha
  subst hh
  exact⟨_,_,hv.same e ha1',by have:=hall _ H2 ha2 (hv.c8 hb).1; rw[hcomm] at this; exact this⟩
 ·obtain⟨hh,hall⟩:=hv.c1 hb
  subst hh
  exact⟨_,_,hall e H ha1' (hu.c8 ha).2,by have:=hu.same _ ha2; rw[hcomm] at this; exact this⟩
 ·-- a load, a store into the region's own block
  obtain⟨hh,hall⟩:=hu.c1 ha
  subst hh
  rcases hv.c9 hb with⟨hh2,_⟩|⟨s,cs,blk,hsl,hcs,hh2,hallA⟩
  ·exact fin0 rfl hh2
  ·subst hh2
   exact⟨_,_,hv.same e ha1',by have:=hall _ (H1.set (base+s) (some blk)) ha2 (cs_set s blk H1); rw[hcomm] at this; exact this⟩
 ·obtain⟨hh,hall⟩:=hv.c1 hb
  subst hh
  rcases hu.c9 ha with⟨hh2,_⟩|⟨s,cs,blk,hsl,hcs,hh2,hallA⟩
  ·exact fin0 hh2 rfl
  ·subst hh2
   exact⟨_,_,hall e H ha1' (cs_set' s blk H),by have:=hu.same _ ha2; rw[hcomm] at this; exact this⟩
 ·rcases hu.c2 ha with⟨hh,hallU⟩|⟨s,blk,hsl,⟨bcs,hbc⟩,hfree,hh,hallA⟩
  ·subst hh
   exact⟨_,_,hv.same e ha1',by have:=hallU _ H2 ha2; rw[hcomm] at this; exact this⟩
  ·rcases hv.c9 hb with⟨hh2,hallV⟩|⟨s',cs',blk',hsl',hcs',hh2,hallA'⟩
   ·subst hh2
    exact⟨_,_,hallV e H ha1',by have:=hu.same _ ha2; rw[hcomm] at this; exact this⟩
   ·subst hh
    subst hh2
    have hne:=slots s s' hsl hsl' (.inr hb)
    have hf2:zay (H.set (base+s') (some blk')) (base+s)=true:=by
     rw[zaQ] at hfree ⊢
     rwa[getElem?_set_ne (fun h=>hne h.symm)]
    have:=hallA _ (H.set (base+s') (some blk')) ha2 hf2
    rw[hcomm,List.set_comm _ _ hne] at this
    exact⟨_,_,hallA' e H ha1' (getElem?_set_ne hne).symm,this⟩
 ·rcases hv.c2 hb with⟨hh,hallU⟩|⟨s',blk',hsl',⟨bcs,hbc⟩,hfree',hh,hallA'⟩
  ·subst hh
   exact⟨_,_,hallU e H ha1',by have:=hu.same _ ha2; rw[hcomm] at this; exact this⟩
  ·rcases hu.c9 ha with⟨hh2,hallV⟩|⟨s,cs,blk,hsl,hcs,hh2,hallA⟩
   ·subst hh2
    exact⟨_,_,hv.same e ha1',by have:=hallV _ H2 ha2; rw[hcomm] at this; exact this⟩
   ·subst hh2
    subst hh
    have hne:=slots s s' hsl hsl' (.inl ha)
    have hf1:zay H (base+s')=true:=by
     rw[zaQ] at hfree' ⊢
     rwa[getElem?_set_ne hne] at hfree'
    have:=hallA _ (H.set (base+s') (some blk')) ha2 (getElem?_set_ne (fun h=>hne h.symm))
    rw[hcomm,List.set_comm _ _ hne] at this
    exact⟨_,_,hallA' e H ha1' hf1,this⟩
 ·rcases hu.c9 ha with⟨hh,hallU⟩|⟨s,cs,blk,hsl,hcs,hh,hallA⟩
  ·subst hh
   exact⟨_,_,hv.same e ha1',by have:=hallU _ H2 ha2; rw[hcomm] at this; exact this⟩
  ·rcases hv.c9 hb with⟨hh2,hallV⟩|⟨s',cs',blk',hsl',hcs',hh2,hallA'⟩
   ·subst hh2
    exact⟨_,_,hallV e H ha1',by have:=hu.same _ ha2; rw[hcomm] at this; exact this⟩
   ·subst hh
    subst hh2
    have hne:=slots s s' hsl hsl' (.inl ha)
    have:=hallA _ (H.set (base+s') (some blk')) ha2 (getElem?_set_ne (fun h=>hne h.symm))
    rw[hcomm,List.set_comm _ _ hne] at this
    exact⟨_,_,hallA' e H ha1' (getElem?_set_ne hne).symm,this⟩
 ·-- a load of one block, a call that leaves it
  obtain⟨hh,hall⟩:=hu.c6 ha
  subst hh
  have hroot:∀ r,o.op.root=some r→r∈p.op.avoid∧r∈p.uses:=by
   intro r hr
   simp only[zgQ,hr,hb,Bool.and_eq_true] at hap
   have h3:r∈p.op.avoid:=by simpa using hap.1.1
   refine⟨h3,?_⟩
   unfold SOp.avoid at h3
   split at h3
   ·rename_i hpo; simp only[SOper.uses,hpo,SOp.uses,List.mem_append]; exact .inl (.inl (.inl h3))
   ·rename_i hpo; simp only[SOper.uses,hpo,SOp.uses,List.mem_append]; exact .inl (.inl h3)
   ·cases h3
  have:=hall _ H2 ha2 fun r idr hr hid=>by
   obtain⟨h3,h4⟩:=hroot r hr
   exact hv.c10 hb r h3 idr (by rw[ha1 r h4]; exact hid)
  exact⟨_,_,hv.same e ha1',by rw[hcomm] at this; exact this⟩
 ·obtain⟨hh,hall⟩:=hv.c6 hb
  subst hh
  have hroot:∀ r,p.op.root=some r→r∈o.op.avoid∧r∈p.uses:=by
   intro r hr
   simp only[zgQ,hr,ha,Bool.and_eq_true] at hap
   have h3:r∈o.op.avoid:=by simpa using hap.1.2
   refine⟨h3,?_⟩
   unfold SOp.root at hr
   split at hr
   ·rename_i hpo; cases hr; simp[SOper.uses,hpo,SOp.uses]
   ·cases hr
  refine⟨_,_,hall e H ha1' fun r idr hr hid=>?_,by have:=hu.same _ ha2; rw[hcomm] at this; exact this⟩
  obtain⟨h3,h4⟩:=hroot r hr
  exact(hu.c10 ha r h3 idr (by rw[←ha1 r h4]; exact hid)).symm
theorem znY{n k:Nat}{H:Heap}(h:(zac n H)[k]?=some none):H[k]?=some none:=by
 rw[zhG] at h
 split at h
 ·cases hh:H[k]? with
  | none=>simp[hh] at h
  | some o=>cases o with
   | none=>rfl
   | some b=>simp[hh] at h
 ·cases h
theorem zxn(n:Nat){c:V}(h:c.lit=true):c.cl n=c:=by
 cases c with
 | vs es tk=>cases es<;>cases tk<;>simp[V.lit] at h; simp[V.cl,Tk.cl]
 | _=>first|(simp[V.lit] at h; done)|rfl
theorem zmz(n:Nat):∀{z:List V},z.all V.lit=true→clL n z=z
 | [],_=>rfl
 | c::z,h=>by
  simp only[List.all_cons,Bool.and_eq_true] at h
  simp only[clL,zxn n h.1,zmz n h.2]
theorem SS.swap{base:Nat}{o p:SOper}{e e1 e2:Env}(h:SS P fm base o e H e1 H1)(k:SS P fm base p e1 H1 e2 H2)(hi:zl4 o p=true) :
  ∃ f Hb,SS P fm base p e H f Hb∧SS P fm base o f Hb e2 H2:=by
 unfold zl4 at hi
 rw[Bool.or_eq_true] at hi
 rcases hi with hi|hi
 ·exact h.swap0 k hi
 unfold zsu at hi
 split at hi
 case h_2=>cases hi
 rename_i f xs s z hop hpp
 simp only[Bool.and_eq_true] at hi
 obtain⟨⟨hz,h1⟩,h2⟩:=hi
 have ha1:∀ u,∀ i∈p.uses,e.put o.dst u i=e i:=fun u=>by
  refine zhJ ?_
  cases hd:o.dst with
  | none=>rfl
  | some d=>rw[hd] at h1; simp only[Bool.and_eq_true] at h1; exact h1.1
 have ha2:∀ v,∀ i∈o.uses,(e.put p.dst v) i=e i:=fun v=>zhJ h2
 have hcomm:∀ u v,(e.put p.dst v).put o.dst u=(e.put o.dst u).put p.dst v:=fun u v =>
  (zoM (fun k hk hk'=>by rw[hk] at h1; simp[hk'] at h1)).symm
 -- the new block, ahead of the call
 have alloc:∀ u Hb Hb1,SS P fm base p (e.put o.dst u) Hb e2 Hb1→(Hb1=Hb∧e2=(e.put o.dst u).put p.dst .skp∧(∀ f Hc,(∀ i∈p.uses,f i=e i)→SS P fm base p f Hc (f.put p.dst .skp) Hc)) ∨
   (zay Hb (base+s)=true∧Hb1=Hb.set (base+s) (some (.cells z))∧e2=(e.put o.dst u).put p.dst (.ptr (base+s) 0) ∧
    ∀ f Hc,(∀ i∈p.uses,f i=e i)→zay Hc (base+s)=true→SS P fm base p f Hc (f.put p.dst (.ptr (base+s) 0)) (Hc.set (base+s) (some (.cells z)))):=by
  intro u Hb Hb1 hs
  have hw:∀ f:Env,(∀ i∈p.uses,f i=e i)→wanted f p=wanted (e.put o.dst u) p:=fun f hf=>by
   rw[za1 (e:=e) hf,za1 (e:=e) (ha1 u)]
  cases hs with
  | ev hww hv =>
   right
   rw[hpp] at hv
   simp only[ev1] at hv
   split at hv
   case isFalse=>cases hv
   rename_i hfree
   cases hv
   refine⟨hfree,rfl,rfl,fun f Hc hf hfc=>SS.ev ((hw f hf).trans hww) ?_⟩
   rw[hpp]
   simp only[ev1,hfc,if_true]
  | skip hww=>exact .inl ⟨rfl,rfl,fun f Hc hf=>SS.skip ((hw f hf).trans hww)⟩
  | pcall _ hop2=>rw[hpp] at hop2; cases hop2
  | scall _ hop2=>rw[hpp] at hop2; cases hop2
  | scallA _ hop2=>rw[hpp] at hop2; cases hop2
  | scallE _ hop2=>rw[hpp] at hop2; cases hop2
  | kcall _ hop2=>rw[hpp] at hop2; cases hop2
  | vcall _ hop2=>rw[hpp] at hop2; cases hop2
  | ycall _ hop2=>rw[hpp] at hop2; cases hop2
 cases h with
 | ev _ hv=>rw[hop] at hv; simp[ev1] at hv
 | skip hw =>
  have hw2:∀ v,wanted (e.put p.dst v) o=some false:=fun v=>(za1 (ha2 v)).trans hw
  rcases alloc _ _ _ k with⟨rfl,rfl,hall⟩|⟨hf,rfl,rfl,hall⟩
  ·exact⟨_,_,hall e _ (fun _ _=>rfl),by rw[←hcomm]; exact SS.skip (hw2 _)⟩
  ·exact⟨_,_,hall e _ (fun _ _=>rfl) hf,by rw[←hcomm]; exact SS.skip (hw2 _)⟩
 | pcall _ hop2=>rw[hop] at hop2; cases hop2
 | scall _ hop2=>rw[hop] at hop2; cases hop2
 | scallA _ hop2=>rw[hop] at hop2; cases hop2
 | kcall _ hop2=>rw[hop] at hop2; cases hop2
 | vcall _ hop2=>rw[hop] at hop2; cases hop2
 | ycall _ hop2=>rw[hop] at hop2; cases hop2
 | scallE hw hop2 hf hel =>
  rename_i g ys r H3
  rw[hop] at hop2
  cases hop2
  have hux:∀ v,xs.map (X.ev (e.put p.dst v))=xs.map (X.ev e):=fun v=>zbu fun i hi=>ha2 v i (by simp[SOper.uses,hop,SOp.uses,hi])
  have hw2:∀ v,wanted (e.put p.dst v) o=some true:=fun v=>(za1 (ha2 v)).trans hw
  rcases alloc _ _ _ k with⟨rfl,rfl,hall⟩|⟨hfr,rfl,rfl,hall⟩
  ·exact⟨_,_,hall e _ (fun _ _=>rfl),by rw[←hcomm]; exact SS.scallE (hw2 _) hop (by rw[hux]; exact hf) (by rw[hux]; exact hel)⟩
  ·obtain⟨he1,he2,he3⟩:=hel
   have hT:=zaQ.1 hfr
   have hkH:H[base+s]?=some none:=by
    have:((zac H.length H3).drop base)[s]?=(H.drop base)[s]?:=by rw[he3]
    rw[List.getElem?_drop,List.getElem?_drop,hT] at this
    exact this.symm
   have hk3:=znY hT
   have hfk:=hf.frame (z:=z) hkH (Nat.le_add_right base s) he1 he2 hk3 hz
   have hset:zac (H.set (base+s) (some (Blk.cells z))).length (H3.set (base+s) (some (.cells z)))=(zac H.length H3).set (base+s) (some (.cells z)):=by
    rw[List.length_set,zac,zac,List.take_set,List.map_set]
    simp[Blk.cl,zmz _ hz]
   refine⟨_,_,hall e _ (fun _ _=>rfl) (zaQ.2 hkH),?_⟩
   have:=SS.scallE (P:=P) (base:=base) (o:=o) (e:=e.put p.dst (.ptr (base+s) 0)) (H:=H.set (base+s) (some (.cells z))) (hw2 _) hop (by rw[hux]; exact hfk) (by
    rw[hux,hset]
    refine⟨he1,?_,?_⟩
    ·rw[List.map_set,he2]; simp[Blk.cl,zmz _ hz]
    ·rw[List.drop_set,List.drop_set,he3])
   rw[hset,hcomm,List.length_set] at this
   exact this
end Go.Ev
/- Regions: in the text's order, and in whatever order is drawn. -/
namespace Go.Ev
open Go Go.RowKit
variable {P:Program} {M M':Mm} {H H1 H2:Heap} {w w':World} {fm:Fm}
inductive OO (P:Program) (fm:Fm) (base:Nat):List SOper→Env→Heap→Env→Heap→Prop
 | nil {e H}:OO P fm base [] e H e H
 | cons {o os e H e1 H1 e2 H2}:SS P fm base o e H e1 H1→OO P fm base os e1 H1 e2 H2→OO P fm base (o::os) e H e2 H2
theorem OO.len{base:Nat}{os:List SOper}{e e':Env}{H H':Heap}(h:OO P fm base os e H e' H'):H.length≤H'.length:=by
 induction h with
 | nil=>exact Nat.le_refl _
 | cons hs _ ih=>exact Nat.le_trans hs.len ih
def za2(P:Program)(fm:Fm)(n:Nat)(ops:Array Oper):List Oper→List SOper→Bool
 | [],[]=>true
 | o::os,s::ss=>zfU P fm n ops o s&&za2 P fm n ops os ss
 | _,_=>false
theorem zho{n:Nat}{ops:Array Oper}:∀{os:List Oper} {ss:List SOper},za2 P fm n ops os ss=true→ss.length=os.length
 | [],[],_=>rfl
 | [],_::_,h=>by simp[za2] at h
 | _::_,[],h=>by simp[za2] at h
 | o::os,s::ss,h=>by
  simp only[za2,Bool.and_eq_true] at h
  simp[zho h.2]
theorem zjS{n:Nat}{ops:Array Oper}:∀{os:List Oper} {ss:List SOper},za2 P fm n ops os ss=true→∀{i:Nat} {o:Oper} {s:SOper},os[i]?=some o→ss[i]?=some s→zfU P fm n ops o s=true
 | [],[],_,i,_,_,h,_=>by simp at h
 | [],_::_,h,_,_,_,_,_=>by simp[za2] at h
 | _::_,[],h,_,_,_,_,_=>by simp[za2] at h
 | o::os,s::ss,h,i,o',s',h1,h2=>by
  simp only[za2,Bool.and_eq_true] at h
  cases i with
  | zero=>simp at h1 h2; subst h1; subst h2; exact h.1
  | succ i=>simp at h1 h2; exact zjS h.2 h1 h2
theorem OO.text{ro:Option Nat}{base n:Nat}{ops:Array Oper}{ss:List SOper}{e e':Env}{H H':Heap}(h:OO P fm base ss e H e' H'):∀{l:List Oper} {M:Mm} {w:World} {a:Act} {Q:Exit→Act→World→Prop},
  za2 P fm n ops l ss=true→RelT M w e a n→HRel M w H→M.fm=fm →
  (∀ a' w' M',RelT M' w' e' a' n→HRel M' w' H'→Stp M H w M' H' w'→Ids M M' H.length→a'.defers=a.defers→Q .normal a' w')→wpListIn (FR ro) 0 P ops Q l a w:=by
 induction h with
 | nil =>
  intro l M w a Q hc ht hr hm hq
  cases l with
  | nil=>exact hq a w M ht hr (Stp.refl _ _ _) (Ids.refl _ _) rfl
  | cons o l=>simp[za2] at hc
 | cons hs _ ih =>
  intro l M w a Q hc ht hr hm hq
  cases l with
  | nil=>simp[za2] at hc
  | cons o l =>
   simp only[za2,Bool.and_eq_true] at hc
   refine wpListIn_step fun K hK=>?_
   refine hs.sound hc.1 ht hr hm fun a' w' M' t1 r1 s1 i1 d1=>hK _ _ ?_
   refine ih hc.2 t1 r1 (s1.fm.trans hm) fun a'' w'' M'' t2 r2 s2 i2 d2=>?_
   exact hq _ _ _ t2 r2 (s1.trans s2) (i1.trans i2 hs.len) (d2.trans d1)
def zg3(ops:Array Oper):Nat→Nat→Nat→Bool
 | 0,_,_=>false
 | k+1,h,i=>match ops[i]? with
  | some o=>o.after.toList.any fun e=>Region.binds .any e&&(e.on==h||zg3 ops k h e.on)
  | none=>false
def sget(ss:List SOper)(i:Nat):SOper:=ss.getD i ⟨none,.mv (.t 0),none⟩
def zmA(ops:Array Oper)(ss:List SOper):Bool :=
 (List.range ops.size).all fun i=>(List.range i).all fun h=>zl4 (sget ss h) (sget ss i)||zg3 ops 4 h i
def zl5(md:Region.Mode)(ops:Array Oper):List Nat→List Nat→Bool
 | _,[]=>true
 | done,i::rest=>(match ops[i]? with|some o=>o.after.toList.all fun e=>!Region.binds md e||done.contains e.on|none=>false)&&zl5 md ops (i::done) rest
def zir(md:Region.Mode)(ops:Array Oper)(σ:List Nat):Bool :=
 zl5 md ops [] σ&&(List.range ops.size).all (σ.contains ·)
def zoN(ops:Array Oper)(ss:List SOper):Bool :=
 zmA ops ss&&zir .any ops (Region.linearise .any ops 0)&&(!Region.departs ops||(zir .text ops (Region.linearise .text ops 0)&&zir .gc ops (Region.linearise .gc ops 0)))
def rem(n:Nat)(listed:Array Bool):List Nat:=(List.range n).filter fun i=>!listed.getD i true
theorem OO.front{base:Nat}{o:SOper}:∀{pre post:List SOper} {e e':Env} {H H':Heap},OO P fm base (pre++o::post) e H e' H'→(∀ p∈pre,zl4 p o=true)→OO P fm base (o::(pre++post)) e H e' H'
 | [],_,_,_,_,_,h,_=>h
 | p::pre,post,e,e',H,H',h,hi=>by
  simp only[List.cons_append] at h
  cases h with
  | cons h1 h2 =>
   have h3:=OO.front h2 (fun q hq=>hi q (by simp[hq]))
   cases h3 with
   | cons h4 h5 =>
    obtain⟨f,Hb,h6,h7⟩:=SS.swap h1 h4 (hi p (by simp))
    exact .cons h6 (.cons h7 h5)
def Down(ops:Array Oper)(listed:Array Bool):Prop:=∀(i:Nat) (o:Oper),listed.getD i false=true→ops[i]?=some o→∀ e∈o.after.toList,Region.binds .any e=true→listed.getD e.on false=true
theorem zis{ops:Array Oper}{listed:Array Bool}(hd:Down ops listed):∀{k h i:Nat} {o:Oper},ops[i]?=some o→(∀ e∈o.after.toList,Region.binds .any e=true→listed.getD e.on false=true) →
  zg3 ops k h i=true→listed.getD h false=true
 | 0,_,_,_,_,_,ho=>by simp[zg3] at ho
 | k+1,h,i,o,hi,hl,ho=>by
  simp only[zg3,hi,List.any_eq_true,Bool.and_eq_true,Bool.or_eq_true,beq_iff_eq] at ho
  obtain⟨e,he,hb,ho⟩:=ho
  have hle:=hl e he hb
  rcases ho with rfl|ho
  ·exact hle
  ·cases hop:ops[e.on]? with
   | none=>cases k<;>simp[zg3,hop] at ho
   | some o'=>exact zis hd hop (fun e' he' hb'=>hd e.on o' hle hop e' he' hb') ho
theorem zsv{md:Region.Mode}{e:Edge}(h:Region.binds .any e=true):Region.binds md e=true:=by
 unfold Region.binds at *
 split at h
 ·simp at h
 ·simp at h
 ·rfl
theorem zl6{md:Region.Mode}{ops:Array Oper}{listed:Array Bool}(hsz:listed.size=ops.size):∀{σ done:List Nat},zl5 md ops done σ=true→(∀ i∈done,listed.getD i false=true) →
  (∃ i∈σ,i<ops.size∧listed.getD i true=false)→Region.ready md ops listed≠[]
 | [],_,_,_,⟨i,hi,_⟩=>by cases hi
 | j::σ,done,ht,hd,⟨i,hi,hlt,hl⟩=>by
  simp only[zl5,Bool.and_eq_true] at ht
  obtain⟨hj,ht⟩:=ht
  by_cases hlj:listed.getD j true=true
  ·by_cases hjs:j<ops.size
   ·refine zl6 hsz ht (fun k hk=>?_) ⟨i,?_,hlt,hl⟩
    ·simp only[List.mem_cons] at hk
     rcases hk with rfl|hk
     ·rw[Array.getD_eq_getD_getElem?,Array.getElem?_eq_getElem (by omega)] at hlj ⊢
      simpa using hlj
     ·exact hd k hk
    ·simp only[List.mem_cons] at hi
     rcases hi with rfl|hi
     ·rw[hl] at hlj; cases hlj
     ·exact hi
   ·rw[Array.getElem?_eq_none (by omega)] at hj
    simp at hj
  ·have hlj':listed.getD j true=false:=by simpa using hlj
   have hjs:j<listed.size:=by
    rcases Nat.lt_or_ge j listed.size with h|h
    ·exact h
    ·rw[Array.getD_eq_getD_getElem?,Array.getElem?_eq_none h] at hlj'; simp at hlj'
   intro hn
   have:j∈Region.ready md ops listed:=by
    unfold Region.ready
    rw[List.mem_filter]
    refine⟨List.mem_range.2 (by omega),?_⟩
    cases ho:ops[j]? with
    | none=>rw[ho] at hj; cases hj
    | some o =>
     rw[ho] at hj
     simp only[List.all_eq_true,Bool.or_eq_true,Bool.not_eq_true'] at hj
     simp only[hlj',Bool.not_false,Bool.true_and,Option.map_some,Option.getD_some]
     rw[Array.all_eq_true_iff_forall_mem]
     intro e he
     rcases hj e (by simpa using he) with h|h
     ·simp[h]
     ·simp[hd e.on (by simpa using h)]
   rw[hn] at this
   cases this
theorem zuc{listed:Array Bool}{i j:Nat}{d:Bool}(hi:i<listed.size):(listed.setIfInBounds i true).getD j d=if j=i then true else listed.getD j d:=by
 rw[Array.getD_eq_getD_getElem?,Array.getD_eq_getD_getElem?]
 by_cases h:j=i
 ·subst h; simp[hi]
 ·rw[if_neg h,Array.getElem?_setIfInBounds_ne (by omega)]
theorem OO.drawn{ro:Option Nat}{base n:Nat}{ops:Array Oper}{ss:List SOper}{md:Region.Mode}{σ:List Nat}{e':Env}{H':Heap}(hc:za2 P fm n ops ops.toList ss=true)(hp:zmA ops ss=true)(htopo:zir md ops σ=true)
  {Q:Exit→Act→World→Prop}:∀(fuel:Nat) {listed:Array Bool} {M:Mm} {w:World} {a:Act} {e:Env} {H:Heap},listed.size=ops.size→(rem ops.size listed).length=fuel→Down ops listed →
  OO P fm base ((rem ops.size listed).map (sget ss)) e H e' H'→RelT M w e a n→HRel M w H→M.fm=fm →
  (∀ a' w' M',RelT M' w' e' a' n→HRel M' w' H'→Stp M H w M' H' w'→Ids M M' H.length→a'.defers=a.defers→Q .normal a' w')→wpAnyIn (FR ro) 0 P md ops Q fuel listed a w:=by
 have hsl:ss.length=ops.size:=by have:=zho hc; simpa using this
 have rem0:∀{listed:Array Bool},listed.size=ops.size→Region.ready md ops listed=[]→rem ops.size listed=[]:=by
  intro listed hsz hr
  cases hrem:rem ops.size listed with
  | nil=>rfl
  | cons i l =>
   exfalso
   have hi:i∈rem ops.size listed:=by rw[hrem]; simp
   unfold rem at hi
   rw[List.mem_filter,List.mem_range] at hi
   simp only[zir,Bool.and_eq_true,List.all_eq_true,List.mem_range] at htopo
   exact zl6 hsz htopo.1 (fun j hj=>by cases hj) ⟨i,by simpa using htopo.2 i hi.1,hi.1,by simpa using hi.2⟩ hr
 intro fuel
 induction fuel with
 | zero =>
  intro listed M w a e H hsz hf hd ho ht hr hm hq
  have hrem:rem ops.size listed=[]:=List.eq_nil_of_length_eq_zero hf
  rw[hrem] at ho
  cases ho
  refine⟨?_,hq a w M ht hr (Stp.refl _ _ _) (Ids.refl _ _) rfl⟩
  cases hrd:Region.ready md ops listed with
  | nil=>rfl
  | cons i l =>
   exfalso
   have hi:i∈Region.ready md ops listed:=by rw[hrd]; simp
   unfold Region.ready at hi
   rw[List.mem_filter] at hi
   simp only[Bool.and_eq_true] at hi
   have:i∈rem ops.size listed:=by
    unfold rem
    rw[List.mem_filter]
    exact⟨hi.1,hi.2.1⟩
   rw[hrem] at this
   cases this
 | succ fuel ih =>
  intro listed M w a e H hsz hf hd ho ht hr hm hq
  refine⟨fun hr0=>?_,fun i hi=>?_⟩
  ·have:=rem0 hsz hr0
   rw[this] at hf
   simp at hf
  ·unfold Region.ready at hi
   rw[List.mem_filter,List.mem_range] at hi
   simp only[Bool.and_eq_true,Bool.not_eq_true'] at hi
   obtain⟨hlt,hnl,hedges⟩:=hi
   have hoi:ops[i]?=some ops[i]:=Array.getElem?_eq_getElem hlt
   rw[hoi] at hedges
   simp only[Option.map_some,Option.getD_some] at hedges
   rw[Array.all_eq_true_iff_forall_mem] at hedges
   have hany:∀ e∈(ops[i]).after.toList,Region.binds .any e=true→listed.getD e.on false=true:=by
    intro e he hb
    have:=hedges e (by simpa using he)
    simpa[zsv hb] using this
   -- its place among what is still to come
   have hmem:i∈rem ops.size listed:=by
    unfold rem
    rw[List.mem_filter,List.mem_range]
    exact⟨hlt,by simp[hnl]⟩
   obtain⟨pre,post,hsplit⟩:=List.append_of_mem hmem
   have hsorted:(rem ops.size listed).Pairwise (·<·):=List.Pairwise.filter _ (List.pairwise_lt_range)
   have hpre:∀ h∈pre,h<i∧listed.getD h true=false:=by
    intro h hh
    rw[hsplit,List.pairwise_append] at hsorted
    refine⟨hsorted.2.2 h hh i (by simp),?_⟩
    have:h∈rem ops.size listed:=by rw[hsplit]; simp[hh]
    unfold rem at this
    rw[List.mem_filter] at this
    simpa using this.2
   have hind:∀ p∈pre.map (sget ss),zl4 p (sget ss i)=true:=by
    intro p hp'
    obtain⟨h,hh,rfl⟩:=List.mem_map.1 hp'
    obtain⟨hlt',hnl'⟩:=hpre h hh
    simp only[zmA,List.all_eq_true,List.mem_range,Bool.or_eq_true] at hp
    rcases hp i hlt h hlt' with h1|h1
    ·exact h1
    ·exfalso
     have:=zis hd hoi hany h1
     rw[Array.getD_eq_getD_getElem?,Array.getElem?_eq_getElem (by omega)] at this hnl'
     simp at this hnl'
     rw[this] at hnl'
     cases hnl'
   rw[hsplit,List.map_append,List.map_cons] at ho
   have ho2:=OO.front ho hind
   cases ho2 with
   | cons hs hrest =>
    have hsi:ss[i]?=some (sget ss i):=by
     rw[List.getElem?_eq_getElem (by omega)]
     simp[sget,List.getD,List.getElem?_eq_getElem (by omega:i<ss.length)]
    have hck:=zjS hc (i:=i) (by rw[Array.getElem?_toList]; exact hoi) hsi
    have hset:∀ j d,(listed.setIfInBounds i true).getD j d=if j=i then true else listed.getD j d:=fun j d=>zuc (by omega)
    have hrem':rem ops.size (listed.setIfInBounds i true)=pre++post:=by
     have h1:rem ops.size (listed.setIfInBounds i true)=(rem ops.size listed).filter (fun j=>decide (j≠i)):=by
      unfold rem
      rw[List.filter_filter]
      apply List.filter_congr
      intro j _
      rw[hset]
      by_cases hji:j=i<;>simp[hji]
     rw[h1,hsplit,List.filter_append,List.filter_cons]
     simp only[ne_eq,not_true_eq_false,decide_false,Bool.false_eq_true,if_false]
     rw[hsplit,List.pairwise_append,List.pairwise_cons] at hsorted
     rw[List.filter_eq_self.2 (fun j hj=>by have:=(hpre j hj).1; simp; omega),List.filter_eq_self.2 (fun j hj=>by have:=hsorted.2.1.1 j hj; simp; omega)]
    have key:if Region.wanted ops[i] (yielded ops a.tmps)=true then(ops[i]).wpIn (FR ro) 0 P a w (wpAnyIn (FR ro) 0 P md ops Q fuel (listed.setIfInBounds i true)) Q else(∀ f,(ops[i]).about P w a.eval=some f→(FR ro).fn f)∧wpAnyIn (FR ro) 0 P md ops Q fuel (listed.setIfInBounds i true) (a.put (ops[i]).dst undef) w:=by
     refine hs.sound hck ht hr hm fun a' w' M' t1 r1 s1 i1 d1=>?_
     refine ih (by simpa using hsz) ?_ ?_ ?_ t1 r1 (s1.fm.trans hm) ?_
     ·rw[hrem']
      rw[hsplit] at hf
      simp only[List.length_append,List.length_cons] at hf ⊢
      omega
     ·intro j o hj hoj e he hb
      rw[hset] at hj ⊢
      by_cases hji:j=i
      ·subst hji
       rw[hoi] at hoj; cases hoj
       split
       ·rfl
       ·exact hany e he hb
      ·rw[if_neg hji] at hj
       split
       ·rfl
       ·exact hd j o hj hoj e he hb
     ·rw[hrem',List.map_append]; exact hrest
     ·intro a'' w'' M'' t2 r2 s2 i2 d2
      exact hq _ _ _ t2 r2 (s1.trans s2) (i1.trans i2 hs.len) (d2.trans d1)
    unfold wpOpIn
    rw[hoi]
    simp only
    split
    ·rename_i hw; rw[if_pos hw] at key; exact key
    ·rename_i hw; rw[if_neg hw] at key; exact key
theorem zoO{ro:Option Nat}{base n id:Nat}{ops:Array Oper}{ss:List SOper}{e e':Env}{H H':Heap}{a:Act}{Q:Exit→Act→World→Prop}(h:OO P fm base ss e H e' H')(hc:za2 P fm n ops ops.toList ss=true)(hd:zoN ops ss=true)
  (ht:RelT M w e a n) (hr:HRel M w H) (hm:M.fm=fm)
  (hq:∀ a' w' M',RelT M' w' e' a' n→HRel M' w' H'→Stp M H w M' H' w'→Ids M M' H.length→a'.defers=a.defers→Q .normal a' w'):(Code.region id ops true).wpIn (FR ro) 0 P Q a w:=by
 unfold zoN at hd
 simp only[Bool.and_eq_true,Bool.or_eq_true,Bool.not_eq_true'] at hd
 obtain⟨⟨hp,h1⟩,h2⟩:=hd
 have hsl:ss.length=ops.size:=by have:=zho hc; simpa using this
 have g:=Grew.drew w
 obtain⟨s0,i0,r0⟩:=zha (w':=w.drew) (M':=M) hr g (Same.refl M _)
 have hrem:rem ops.size (Array.replicate ops.size false)=List.range ops.size:=by
  unfold rem
  apply List.filter_eq_self.2
  intro i hi
  rw[List.mem_range] at hi
  rw[Array.getD_eq_getD_getElem?,Array.getElem?_replicate,if_pos hi]
  rfl
 have hss:(List.range ops.size).map (sget ss)=ss:=by
  apply List.ext_getElem?
  intro i
  rw[List.getElem?_map]
  by_cases hi:i<ops.size
  ·rw[List.getElem?_range hi,List.getElem?_eq_getElem (by omega:i<ss.length)]
   simp[sget,List.getD,List.getElem?_eq_getElem (by omega:i<ss.length)]
  ·rw[List.getElem?_eq_none (by simp; omega),List.getElem?_eq_none (by omega:ss.length≤i)]
   rfl
 have main:∀ md σ,zir md ops σ=true→∀ t,wpOpsIn (FR ro) 0 P ops Q (Region.linearise md ops t) a w.drew:=by
  intro md σ hσ t
  have:=OO.drawn (ro:=ro) (P:=P) (fm:=fm) (base:=base) (md:=md) (σ:=σ) (Q:=Q) (e':=e') (H':=H') (ss:=ss) hc hp hσ ops.size (listed:=Array.replicate ops.size false) (M:=M) (w:=w.drew) (a:=a) (e:=e) (H:=H)
   (by simp) (by rw[hrem]; simp) (fun i o hi _=>by
    rw[Array.getD_eq_getD_getElem?,Array.getElem?_replicate] at hi
    split at hi<;>simp at hi) (by rw[hrem,hss]; exact h) (RelT.step s0 hr i0 ht) r0 hm
   (fun a' w' M' t1 r1 s1 i1 d1=>hq a' w' M' t1 r1 (s0.trans s1) (i0.trans i1 (Nat.le_refl _)) d1)
  exact wpAnyIn_sound _ t _ _ _ this
 refine wpIn_region_draw fun t=>?_
 change wpOpsIn (FR ro) 0 P ops Q _ a w.drew
 unfold Region.schedule
 split
 ·exact main .any _ h1 t
 ·rename_i hmix
  rcases h2 with h2|⟨h2,h3⟩
  ·exfalso; apply hmix; simp[h2]
  ·split
   ·exact main .text _ h2 _
   ·exact main .gc _ h3 _
end Go.Ev
