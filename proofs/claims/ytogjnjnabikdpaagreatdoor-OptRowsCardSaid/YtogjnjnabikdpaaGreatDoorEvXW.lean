/- Runs of simplified code that can be computed. -/
import Derived.Test.YtogjnjnabikdpaaGreatDoorEvNW
import Derived.Test.YtogjnjnabikdpaaGreatDoorEvSW
import Derived.Test.YtogjnjnabikdpaaGreatDoorEvInsCW
set_option linter.unusedSimpArgs false
set_option linter.unusedVariables false
set_option maxHeartbeats 4000000
set_option maxRecDepth 10000
namespace Go.Ev
open Go Go.RowKit
mutual
def veq:V→V→Bool
 | .undef,.undef=>true
 | .skp,.skp=>true
 | .any,.any=>true
 | .int k a,.int k' b=>decide (k=k')&&a==b
 | .bool a,.bool b=>a==b
 | .str a,.str b=>a==b
 | .nilp,.nilp=>true
 | .ptr a b,.ptr c d=>a==c&&b==d
 | .cptr a,.cptr b=>veqL a b
 | .vs a t,.vs b u=>zma a b&&decide (t=u)
 | .rs a b c d,.rs a' b' c' d'=>a==a'&&b==b'&&c==c'&&d==d'
 | .fn f c,.fn g d=>f==g&&veqL c d
 | .nilf,.nilf=>true
 | .agg a,.agg b=>veqL a b
 | .tup a,.tup b=>veqL a b
 | .mp a,.mp b=>a==b
 | .nilm,.nilm=>true
 | .yld a,.yld b=>a==b
 | .gs a n,.gs b m=>a==b&&n==m
 | _,_=>false
def veqL:List V→List V→Bool
 | [],[]=>true
 | a::as,b::bs=>veq a b&&veqL as bs
 | _,_=>false
def zma:List (List V)→List (List V)→Bool
 | [],[]=>true
 | a::as,b::bs=>veqL a b&&zma as bs
 | _,_=>false
end
mutual
theorem ziu:∀{a b:V},veq a b=true→a=b
 | .undef,b,h=>by cases b<;>simp[veq] at h; rfl
 | .skp,b,h=>by cases b<;>simp[veq] at h; rfl
 | .any,b,h=>by cases b<;>simp[veq] at h; rfl
 | .int _ _,b,h=>by cases b<;>simp[veq] at h; rw[h.1,h.2]
 | .bool _,b,h=>by cases b<;>simp[veq] at h; rw[h]
 | .str _,b,h=>by cases b<;>simp[veq] at h; rw[h]
 | .nilp,b,h=>by cases b<;>simp[veq] at h; rfl
 | .ptr _ _,b,h=>by cases b<;>simp[veq] at h; rw[h.1,h.2]
 | .cptr _,b,h=>by cases b<;>simp[veq] at h; rw[zeS h]
 | .vs _ _,b,h=>by cases b<;>simp[veq] at h; rw[zo0 h.1,h.2]
 | .rs _ _ _ _,b,h=>by cases b<;>simp[veq] at h; rw[h.1.1.1,h.1.1.2,h.1.2,h.2]
 | .fn _ _,b,h=>by cases b<;>simp[veq] at h; rw[h.1,zeS h.2]
 | .nilf,b,h=>by cases b<;>simp[veq] at h; rfl
 | .agg _,b,h=>by cases b<;>simp[veq] at h; rw[zeS h]
 | .tup _,b,h=>by cases b<;>simp[veq] at h; rw[zeS h]
 | .mp _,b,h=>by cases b<;>simp[veq] at h; rw[h]
 | .nilm,b,h=>by cases b<;>simp[veq] at h; rfl
 | .yld _,b,h=>by cases b<;>simp[veq] at h; rw[h]
 | .gs _ _,b,h=>by cases b<;>simp[veq] at h; rw[h.1,h.2]
theorem zeS:∀{a b:List V},veqL a b=true→a=b
 | [],b,h=>by cases b<;>simp[veqL] at h; rfl
 | _::_,b,h=>by cases b<;>simp[veqL] at h; rw[ziu h.1,zeS h.2]
theorem zo0:∀{a b:List (List V)},zma a b=true→a=b
 | [],b,h=>by cases b<;>simp[zma] at h; rfl
 | _::_,b,h=>by cases b<;>simp[zma] at h; rw[zeS h.1,zo0 h.2]
end
def peq:List (V×V)→List (V×V)→Bool
 | [],[]=>true
 | a::as,b::bs=>veq a.1 b.1&&veq a.2 b.2&&peq as bs
 | _,_=>false
theorem zsJ:∀{a b:List (V×V)},peq a b=true→a=b
 | [],b,h=>by cases b<;>simp[peq] at h; rfl
 | (a1,a2)::as,b,h=>by
  cases b with
  | nil=>simp[peq] at h
  | cons b bs =>
   obtain⟨b1,b2⟩:=b
   simp[peq] at h
   rw[ziu h.1.1,ziu h.1.2,zsJ h.2]
def beqB:Option Blk→Option Blk→Bool
 | none,none=>true
 | some (.cells a),some (.cells b)=>veqL a b
 | some (.zone a),some (.zone b)=>a==b
 | some (.froz a),some (.froz b)=>veqL a b
 | some (.map a),some (.map b)=>peq a b
 | some (.siter a i),some (.siter b j)=>a==b&&i==j
 | _,_=>false
theorem zmC{a b:Option Blk}(h:beqB a b=true):a=b:=by
 cases a with
 | none=>cases b<;>simp[beqB] at h; rfl
 | some a =>
  cases b with
  | none=>cases a<;>simp[beqB] at h
  | some b =>
   cases a<;>cases b<;>simp[beqB] at h
   ·rw[zeS h]
   ·rw[h]
   ·rw[zeS h]
   ·rw[zsJ h]
   ·rw[h.1,h.2]
def heqB:Heap→Heap→Bool
 | [],[]=>true
 | a::as,b::bs=>beqB a b&&heqB as bs
 | _,_=>false
theorem zmD:∀{a b:Heap},heqB a b=true→a=b
 | [],b,h=>by cases b<;>simp[heqB] at h; rfl
 | _::_,b,h=>by cases b<;>simp[heqB] at h; rw[zmC h.1,zmD h.2]
inductive In where
 | F (f:Nat) (args:List V) (H:Heap)
 | S (base:Nat) (o:SOper) (e:Env) (H:Heap)
 | O (base:Nat) (os:List SOper) (e:Env) (H:Heap)
 | C (c:SCode) (e:Env) (H:Heap)
 | L (n:Nat) (l:List Nat) (c:SCode) (e:Env) (H:Heap)
inductive Out where
 | F (r:V) (H:Heap)
 | E (e:Env) (H:Heap)
 | C (x:Ex) (e:Env) (H:Heap)
def zgd(G:Tbl):In→Out→Prop
 | .F f args H,.F r H'=>Big G (.F f args H r H')
 | .S base o e H,.E e' H'=>Big G (.S base o e H e' H')
 | .O base os e H,.E e' H'=>Big G (.O base os e H e' H')
 | .C c e H,.C x e' H'=>Big G (.C c e H x e' H')
 | .L n l c e H,.C x e' H'=>Big G (.L n l c e H x e' H')
 | _,_=>False
def beqO:Option (Option Blk)→Option (Option Blk)→Bool
 | some a,some b=>beqB a b
 | none,none=>true
 | _,_=>false
def zqs(e:Env)(rs:List Nat)(H H1:Heap):Bool:=rs.all fun r=>match(e r).ptrId? with|some id=>beqO H1[id]? H[id]?|none=>true
theorem zrr{e:Env}{rs:List Nat}{H H1:Heap}(h:zqs e rs H H1=true):zjC e rs H H1:=by
 intro r hr id hid
 have:=List.all_eq_true.1 h r hr
 simp only[hid] at this
 unfold beqO at this
 split at this
 ·rename_i a b h1 h2; rw[h1,h2,zmC this]
 ·rename_i h1 h2; rw[h1,h2]
 ·cases this
def keqB(n:Nat):List (Nat×V)→Bool
 | []=>true
 | (_,v)::l=>veq (v.cl n) v&&keqB n l
theorem zmE(n:Nat):∀{l:List (Nat×V)},keqB n l=true→l.map (fun p=>(p.1,p.2.cl n))=l
 | [],_=>rfl
 | (i,v)::l,h=>by
  simp only[keqB,Bool.and_eq_true] at h
  simp only[List.map_cons,ziu h.1,zmE n h.2]
def clB(n:Nat):Option Blk→Bool
 | some (.loop e _ _ _ .ready)=>keqB n e
 | some (.loop e _ _ _ .busy)=>keqB n e
 | b=>beqB (b.map (Blk.cl n)) b
theorem zxu(n:Nat){b:Option Blk}(h:clB n b=true):b.map (Blk.cl n)=b:=by
 unfold clB at h
 split at h
 ·simp only[Option.map_some,Blk.cl,zmE n h]
 ·simp only[Option.map_some,Blk.cl,zmE n h]
 ·exact zmC h
def zo1(base:Nat)(args:List V)(H H':Heap):Bool:=args.all (fun v=>veq (v.cl base) v)&&H.all (clB base)&&heqB (H'.drop base) (H.drop base)
theorem zsK{base:Nat}{args:List V}{H H':Heap}(h:zo1 base args H H'=true):zlU base args H H':=by
 simp only[zo1,Bool.and_eq_true,List.all_eq_true] at h
 refine⟨fun v hv=>ziu (h.1.1 v hv),?_,zmD h.2⟩
 conv=>rhs; rw[←List.map_id H]
 exact List.map_congr_left fun b hb=>zxu base (h.1.2 b hb)
def zcn(G:Tbl)(ex:In→Option Out):In→Option Out
 | .F f args H=>match G f with
  | some fn=>if args.length≤fn.nt then
    match ex (.C fn.body (zlT args) H) with
    | some (.C x e' H')=>match x with
     | .exit _=>none
     | _=>match zb2 e' H' fn.res with
      | some vs=>some (.F (zct vs) H')
      | none=>none
    | _=>none
   else none
  | none=>none
 | .S base o e H=>match wanted e o with
  | some true=>match o.op with
   | .pcall f xs=>match ex (.F f (outL (xs.map (X.ev e))) []) with
    | some (.F r H1)=>some (.E (e.put o.dst (frz H1 r).out) H)
    | _=>none
   | .scall f xs=>match ex (.F f (xs.map (X.ev e)) H) with
    | some (.F r H1)=>some (.E (e.put o.dst (r.cl H.length)) (zac H.length H1))
    | _=>none
   | .scallA rs f xs=>match ex (.F f (xs.map (X.ev e)) H) with
    | some (.F r H1)=>if zqs e rs H (zac H.length H1)=true then some (.E (e.put o.dst (r.cl H.length)) (zac H.length H1)) else none
    | _=>none
   | .scallE f xs=>match ex (.F f (xs.map (X.ev e)) H) with
    | some (.F r H1)=>if zo1 base (xs.map (X.ev e)) H (zac H.length H1)=true then some (.E (e.put o.dst (r.cl H.length)) (zac H.length H1)) else none
    | _=>none
   | .kcall true _ _=>none
   | .kcall false f xs=>match ex (.F f (xs.map (X.ev e)) H) with
    | some (.F r H1)=>some (.E (e.put o.dst r) H1)
    | _=>none
   | .vcall ro fx xs=>match fx.ev e with
    | .fn f cap=>match ex (.F f (xs.map (X.ev e)++cap) H) with
     | some (.F r H1)=>if !ro||heqB (zac H.length H1) H then some (.E (e.put o.dst (r.cl H.length)) (zac H.length H1)) else none
     | _=>none
    | .yld id=>match ro with
     | true=>none
     | false=>match H[id]? with
      | some (some (.loop e0 ps as bo .ready))=>if xs.length=ps.length then
        match ex (.C as (putP ps (xs.map (X.ev e)) (mkE e0)) H) with
        | some (.C .nx e1 H1)=>match H1[id]? with
         | some (some (.loop f0 fps fas fbo .ready))=>match ex (.C bo e1 (H1.set id (some (.loop f0 fps fas fbo .busy)))) with
          | some (.C x e2 H2)=>match H2[id]? with
           | some (some (.loop g0 gps gas gbo .busy))=>some (.E (e.put o.dst (.bool (decide (x=.nx)))) (zac H.length (H2.set id (some (.loop g0 gps gas gbo (if x=.nx then .ready else .done x))))))
           | _=>none
          | _=>none
         | _=>none
        | _=>none
       else none
      | _=>none
    | _=>none
   | op=>match ev1 base e H op with
    | some (v,H1)=>some (.E (e.put o.dst v) H1)
    | none=>none
  | some false=>some (.E (e.put o.dst .skp) H)
  | none=>none
 | .O base os e H=>match os with
  | []=>some (.E e H)
  | o::os=>match ex (.S base o e H) with
   | some (.E e1 H1)=>ex (.O base os e1 H1)
   | _=>none
 | .C c e H=>match c with
  | .skip=>some (.C .nx e H)
  | .region m ops=>match ex (.O H.length ops e (H++List.replicate m none)) with
   | some (.E e1 H1)=>some (.C .nx e1 H1)
   | _=>none
  | .seq a b=>match ex (.C a e H) with
   | some (.C x e1 H1)=>match x with
    | .nx=>ex (.C b e1 H1)
    | x=>some (.C x e1 H1)
   | _=>none
  | .cond c a b=>match c.ev e with
   | .bool t=>match t with
    | true=>ex (.C a e H)
    | false=>ex (.C b e H)
   | _=>none
  | .block id c=>match ex (.C c e H) with
   | some (.C x e1 H1)=>some (.C (if x=.exit id then .nx else x) e1 H1)
   | _=>none
  | .loop l c=>ex (.L H.length l c e H)
  | .exit id=>some (.C (.exit id) e H)
  | .ret=>some (.C .ret e H)
  | .keep l=>some (.C .nx (zbR l e) H)
  | .give t off=>match ze2 e H t off with
   | some (e1,H1)=>some (.C .nx e1 H1)
   | none=>none
  | .freeze t=>match zhF e H t with
   | some (e1,H1)=>some (.C .nx e1 H1)
   | none=>none
  | .rangeF g l ps as bo=>match g.ev e with
   | .fn f cap=>match ex (.F f (.yld H.length::cap) (H++[some (.loop (look e l) ps as bo .ready)])) with
    | some (.F _ H1)=>match H1[H.length]? with
     | some (some (.loop _ _ _ _ .ready))=>some (.C .nx e (zac H.length H1))
     | some (some (.loop _ _ _ _ (.done x)))=>match x with
      | .nx=>none
      | x=>some (.C x e (zac H.length H1))
     | _=>none
    | _=>none
   | _=>none
 | .L n l c e H=>match ex (.C c ((zbR l e).cl n) (zac n H)) with
  | some (.C x e1 H1)=>match x with
   | .nx=>ex (.L n l c e1 H1)
   | x=>some (.C x e1 H1)
  | _=>none
def exec(G:Tbl):Nat→In→Option Out
 | 0,_=>none
 | k+1,i=>zcn G (exec G k) i
theorem zpT{G:Tbl}{ex:In→Option Out}(hx:∀ i o,ex i=some o→zgd G i o):∀ i o,zcn G ex i=some o→zgd G i o:=by
 intro i o h
 cases i with
 | F f args H =>
  simp only[zcn] at h
  split at h
  case h_2=>cases h
  rename_i fn hf
  split at h
  case isFalse=>cases h
  rename_i hl
  split at h
  case h_2=>cases h
  rename_i x e' H' hb
  have hb:=hx _ _ hb
  simp only[zgd] at hb
  split at h
  ·cases h
  rename_i hne
  split at h
  case h_2=>cases h
  rename_i vs hvs
  cases h
  refine Big.fn hf hl hb ?_ hvs
  cases x with
  | nx=>exact .inl rfl
  | ret=>exact .inr rfl
  | exit k=>exact absurd rfl (hne k)
 | S base o e H =>
  simp only[zcn] at h
  split at h
  case h_3=>cases h
  ·rename_i hw
   split at h
   ·rename_i f xs hop
    split at h
    case h_2=>cases h
    rename_i r H1 hb
    cases h
    exact Big.pcall hw hop (hx _ _ hb)
   ·rename_i f xs hop
    split at h
    case h_2=>cases h
    rename_i r H1 hb
    cases h
    exact Big.scall hw hop (hx _ _ hb)
   ·rename_i rs f xs hop
    split at h
    case h_2=>cases h
    rename_i r H1 hb
    split at h
    case isFalse=>cases h
    rename_i hlv
    cases h
    exact Big.scallA hw hop (hx _ _ hb) (zrr hlv)
   ·rename_i f xs hop
    split at h
    case h_2=>cases h
    rename_i r H1 hb
    split at h
    case isFalse=>cases h
    rename_i hlv
    cases h
    exact Big.scallE hw hop (hx _ _ hb) (zsK hlv)
   ·cases h
   ·rename_i f xs hop
    split at h
    case h_2=>cases h
    rename_i r H1 hb
    cases h
    exact Big.kcall hw hop (hx _ _ hb) (fun h=>by cases h)
   ·rename_i ro fx xs hop
    split at h
    case h_3=>cases h
    ·rename_i f cap hfx
     split at h
     case h_2=>cases h
     rename_i r H1 hb
     split at h
     case isFalse=>cases h
     rename_i hro
     cases h
     exact Big.vcall hw hop hfx (hx _ _ hb) (fun h=>by
      subst h
      simp only[Bool.not_true,Bool.false_or] at hro
      exact zmD hro)
    ·rename_i id hfx
     split at h
     ·cases h
     split at h
     case h_2=>cases h
     rename_i hb
     split at h
     case isFalse=>cases h
     rename_i hl
     split at h
     case h_2=>cases h
     rename_i ha
     split at h
     case h_2=>cases h
     rename_i hb1
     split at h
     case h_2=>cases h
     rename_i hbo
     split at h
     case h_2=>cases h
     rename_i hb2
     cases h
     exact Big.ycall hw hop hfx hb hl (hx _ _ ha) hb1 (hx _ _ hbo) hb2
   ·split at h
    case h_2=>cases h
    rename_i v H1 hv
    cases h
    exact Big.ev hw hv
  ·rename_i hw
   cases h
   exact Big.skip hw
 | O base os e H =>
  simp only[zcn] at h
  split at h
  ·cases h; exact Big.nil
  ·split at h
   case h_2=>cases h
   rename_i e1 H1 hb
   have h2:=hx _ _ h
   cases o<;>simp only[zgd] at h2
   exact Big.cons (hx _ _ hb) h2
 | C c e H =>
  cases c with
  | skip=>simp only[zcn,Option.some.injEq] at h; subst h; exact Big.cskip
  | region m ops =>
   simp only[zcn] at h
   split at h
   case h_2=>cases h
   rename_i hb; cases h; exact Big.region (hx _ _ hb)
  | seq a b =>
   simp only[zcn] at h
   split at h
   case h_2=>cases h
   rename_i x e1 H1 hb
   split at h
   ·have h2:=hx _ _ h
    cases o<;>simp only[zgd] at h2
    exact Big.seqN (hx _ _ hb) h2
   ·rename_i hne
    cases h
    exact Big.seqX (hx _ _ hb) (fun h=>hne h)
  | cond c a b =>
   simp only[zcn] at h
   split at h
   case h_2=>cases h
   rename_i t ht
   split at h
   ·have h2:=hx _ _ h
    cases o<;>simp only[zgd] at h2
    exact Big.cond ht h2
   ·have h2:=hx _ _ h
    cases o<;>simp only[zgd] at h2
    exact Big.cond ht h2
  | block id c =>
   simp only[zcn] at h
   split at h
   case h_2=>cases h
   rename_i hb; cases h; exact Big.block (hx _ _ hb)
  | loop l c =>
   simp only[zcn] at h
   have h2:=hx _ _ h
   cases o<;>simp only[zgd] at h2
   exact Big.loop h2
  | exit id=>simp only[zcn,Option.some.injEq] at h; subst h; exact Big.exit
  | ret=>simp only[zcn,Option.some.injEq] at h; subst h; exact Big.ret
  | keep l=>simp only[zcn,Option.some.injEq] at h; subst h; exact Big.keep
  | give t off =>
   simp only[zcn] at h
   split at h
   case h_2=>cases h
   rename_i hb; cases h; exact Big.give hb
  | freeze t =>
   simp only[zcn] at h
   split at h
   case h_2=>cases h
   rename_i hb; cases h; exact Big.freeze hb
  | rangeF g l ps as bo =>
   simp only[zcn] at h
   split at h
   case h_2=>cases h
   rename_i f cap hg
   split at h
   case h_2=>cases h
   rename_i hf
   split at h
   case h_3=>cases h
   ·rename_i hb
    cases h
    exact Big.rangeF hg (hx _ _ hf) hb (.inl ⟨rfl,rfl⟩)
   ·rename_i hb
    split at h
    ·cases h
    ·rename_i hne
     cases h
     exact Big.rangeF hg (hx _ _ hf) hb (.inr ⟨rfl,fun h=>hne h⟩)
 | L n l c e H =>
  simp only[zcn] at h
  split at h
  case h_2=>cases h
  rename_i x e1 H1 hb
  split at h
  ·have h2:=hx _ _ h
   cases o<;>simp only[zgd] at h2
   exact Big.round (hx _ _ hb) h2
  ·rename_i hne
   cases h
   exact Big.last (hx _ _ hb) (fun h=>hne h)
theorem zmb{G:Tbl}:∀(k:Nat) (i:In) (o:Out),exec G k i=some o→zgd G i o
 | 0,_,_,h=>by simp[exec] at h
 | k+1,i,o,h=>zpT (zmb k) i o h
end Go.Ev
/- Answers that are computed. -/
namespace Go.Ev
open Go Go.RowKit
def zo2(G:Tbl)(k f:Nat)(args:List V)(r:V):Bool :=
 match exec G k (.F f args []) with
 | some (.F r1 H1)=>veq (frz H1 r1).out r
 | _=>false
theorem zwb{G:Tbl}{k f:Nat}{args:List V}{r:V}(h:zo2 G k f args r=true):FP G f args r:=by
 unfold zo2 at h
 split at h
 ·rename_i r1 H1 hr
  exact⟨_,_,zmb k _ _ hr,ziu h⟩
 ·cases h
end Go.Ev
/- Forms of a few variables and a table: plain mathematics, with no program in sight. -/
namespace Go.Ev
def cnt(tab:List Nat)(j:Nat):Bool:=(List.range tab.length).any fun n=>tab[n]? !=tab[n ^^^ 2^j]?
def okAt(vars:List Int)(tab:List Nat)(j:Nat):Prop :=
 ∃ v,vars[j]?=some v∧0≤v∧v<34∧(∀ u,0<j→vars[j-1]?=some u→u<v)∧cnt tab j=true
def Right(vars:List Int)(tab:List Nat):Prop:=vars.length≤4∧tab.length=2^vars.length∧∀ j,j<vars.length→okAt vars tab j
open Classical in
noncomputable def zbJ(vars:List Int)(tab:List Nat):Bool:=decide (Right vars tab)
theorem zcv{vars:List Int}{tab:List Nat}:zbJ vars tab=true↔Right vars tab:=by simp[zbJ]
abbrev Up(l:List Int):Prop:=l.Pairwise (·<·)
theorem zsL:∀{a b:List Int},Up a→Up b→(∀ v,v∈a↔v∈b)→a=b
 | [],[],_,_,_=>rfl
 | [],y::b,_,_,h=>absurd ((h y).2 (by simp)) (by simp)
 | x::a,[],_,_,h=>absurd ((h x).1 (by simp)) (by simp)
 | x::a,y::b,ha,hb,h=>by
  have ha':=List.pairwise_cons.1 ha
  have hb':=List.pairwise_cons.1 hb
  have hxy:x=y:=by
   rcases List.mem_cons.1 ((h x).1 (by simp)) with e|e
   ·exact e
   rcases List.mem_cons.1 ((h y).2 (by simp)) with e'|e'
   ·exact e'.symm
   have:=hb'.1 x e; have:=ha'.1 y e'; omega
  subst hxy
  rw[zsL ha'.2 hb'.2 fun v=>?_]
  constructor
  ·intro hv
   have h1:=ha'.1 v hv
   rcases List.mem_cons.1 ((h v).1 (by simp[hv])) with e|e
   ·omega
   ·exact e
  ·intro hv
   have h1:=hb'.1 v hv
   rcases List.mem_cons.1 ((h v).2 (by simp[hv])) with e|e
   ·omega
   ·exact e
theorem Up.nodup{l:List Int}(h:Up l):l.Nodup:=h.imp (fun h e=>by omega)
theorem zA9{l:List Int}(h:∀ j,0<j→∀ u v,l[j-1]?=some u→l[j]?=some v→u<v):Up l:=by
 induction l with
 | nil=>simp
 | cons x l ih =>
  rw[Up,List.pairwise_cons]
  have htl:Up l:=ih (fun j hj u v hu hv=>by
   refine h (j+1) (by omega) u v ?_ (by simpa using hv)
   obtain⟨k,rfl⟩:∃ k,j=k+1:=⟨j-1,by omega⟩
   simpa using hu)
  refine⟨?_,htl⟩
  intro v hv
  cases l with
  | nil=>cases hv
  | cons y l =>
   have hxy:x<y:=h 1 (by omega) x y (by simp) (by simp)
   rcases List.mem_cons.1 hv with e|e
   ·omega
   ·have:=(List.pairwise_cons.1 htl).1 v e; omega
theorem Right.up{vars:List Int}{tab:List Nat}(h:Right vars tab):Up vars:=zA9 fun j hj u v hu hv=>by
 have hlt:j<vars.length:=by
  rcases Nat.lt_or_ge j vars.length with h|h
  ·exact h
  ·rw[List.getElem?_eq_none h] at hv; cases hv
 obtain⟨w,hw,_,_,h3,_⟩:=h.2.2 j hlt
 rw[hv] at hw; cases hw
 exact h3 u hj hu
theorem Right.mem{vars:List Int}{tab:List Nat}(h:Right vars tab){v:Int}(hv:v∈vars):0≤v∧v<34:=by
 obtain⟨j,hj,rfl⟩:=List.mem_iff_getElem.1 hv
 obtain⟨w,hw,h1,h2,_⟩:=h.2.2 j hj
 rw[List.getElem?_eq_getElem hj] at hw; cases hw
 exact⟨h1,h2⟩
theorem zj2{l:List Int}(h:l.Nodup){i j:Nat}{hi:i<l.length}{hj:j<l.length}(e:l[i]=l[j]):i=j:=by
 rcases Nat.lt_trichotomy i j with hl|hl|hl
 ·exact absurd e (List.pairwise_iff_getElem.1 h _ _ _ _ hl)
 ·exact hl
 ·exact absurd e.symm (List.pairwise_iff_getElem.1 h _ _ _ _ hl)
def mer:List Int→List Int→List Int
 | [],b=>b
 | a,[]=>a
 | x::a,y::b=>if x<y then x::mer a (y::b) else if y<x then y::mer (x::a) b else x::mer a b
termination_by a b=>a.length+b.length
theorem zg5(a:List Int):mer a []=a:=by cases a<;>simp[mer]
theorem zcO{v:Int}(a b:List Int):v∈mer a b↔v∈a∨v∈b:=by
 fun_induction mer a b with
 | case1 b=>simp
 | case2 a h=>simp
 | case3 x a y b h ih =>
  simp only[List.mem_cons,ih]
  constructor
  ·rintro(h|h|h|h)<;>simp[h]
  ·rintro((h|h)|h|h)<;>simp[h]
 | case4 x a y b h h2 ih =>
  simp only[List.mem_cons,ih]
  constructor
  ·rintro(h|(h|h)|h)<;>simp[h]
  ·rintro((h|h)|h|h)<;>simp[h]
 | case5 x a y b h h2 ih =>
  have:x=y:=by omega
  subst this
  simp[ih]; constructor
  ·rintro(h|h|h)<;>simp[h]
  ·rintro((h|h)|h|h)<;>simp[h]
theorem zsM(a b:List Int)(ha:Up a)(hb:Up b):Up (mer a b):=by
 fun_induction mer a b with
 | case1 b=>exact hb
 | case2 a h=>exact ha
 | case3 x a y b h ih =>
  have ha':=List.pairwise_cons.1 ha
  have hb':=List.pairwise_cons.1 hb
  refine List.pairwise_cons.2 ⟨fun v hv=>?_,ih ha'.2 hb⟩
  rcases(zcO _ _).1 hv with h1|h1
  ·exact ha'.1 v h1
  ·rcases List.mem_cons.1 h1 with e|e
   ·omega
   ·have:=hb'.1 v e; omega
 | case4 x a y b h h2 ih =>
  have ha':=List.pairwise_cons.1 ha
  have hb':=List.pairwise_cons.1 hb
  refine List.pairwise_cons.2 ⟨fun v hv=>?_,ih ha hb'.2⟩
  rcases(zcO _ _).1 hv with h1|h1
  ·rcases List.mem_cons.1 h1 with e|e
   ·omega
   ·have:=ha'.1 v e; omega
  ·exact hb'.1 v h1
 | case5 x a y b h h2 ih =>
  have ha':=List.pairwise_cons.1 ha
  have hb':=List.pairwise_cons.1 hb
  refine List.pairwise_cons.2 ⟨fun v hv=>?_,ih ha'.2 hb'.2⟩
  rcases(zcO _ _).1 hv with h1|h1
  ·exact ha'.1 v h1
  ·have:=hb'.1 v h1; omega
theorem zqt(a b:List Int):(mer a b).length≤a.length+b.length:=by
 fun_induction mer a b<;>simp_all<;>omega
theorem ziv:∀{a b:List Int},Up a→Up b→(∀ v∈a,v∈b)→a.Sublist b
 | [],_,_,_,_=>List.nil_sublist _
 | x::a,[],_,_,h=>absurd (h x (by simp)) (by simp)
 | x::a,y::b,ha,hb,h=>by
  have ha':=List.pairwise_cons.1 ha
  have hb':=List.pairwise_cons.1 hb
  by_cases e:x=y
  ·subst e
   refine List.Sublist.cons_cons _ (ziv ha'.2 hb'.2 fun v hv=>?_)
   rcases List.mem_cons.1 (h v (by simp[hv])) with e|e
   ·have:=ha'.1 v hv; omega
   ·exact e
  ·refine List.Sublist.cons _ (ziv ha hb'.2 fun v hv=>?_)
   rcases List.mem_cons.1 (h v hv) with e'|e'
   ·subst e'
    rcases List.mem_cons.1 hv with e2|e2
    ·exact absurd e2.symm e
    ·rcases List.mem_cons.1 (h x (by simp)) with e3|e3
     ·exact absurd e3 e
     ·have:=ha'.1 v e2; have:=hb'.1 x e3; omega
   ·exact e'
termination_by a b=>a.length+b.length
def idx:List Int→(Int→Bool)→Nat
 | [],_=>0
 | v::vs,p=>(p v).toNat+2*idx vs p
theorem zgm:∀(vs:List Int) (p:Int→Bool),idx vs p<2^vs.length
 | [],_=>by simp[idx]
 | v::vs,p=>by
  have:=zgm vs p
  have h2:(p v).toNat≤1:=by cases p v<;>simp
  simp only[idx,List.length_cons,Nat.pow_succ]; omega
theorem zi9(p:Int→Bool):∀(a b:List Int),idx (a++b) p=idx a p+2^a.length*idx b p
 | [],b=>by simp[idx]
 | v::a,b=>by
  simp only[List.cons_append,idx,zi9 p a b,List.length_cons,Nat.pow_succ]
  have:2^a.length*2*idx b p=2*(2^a.length*idx b p):=by rw[Nat.mul_comm (2^a.length) 2,Nat.mul_assoc]
  omega
theorem zeT(p:Int→Bool):∀(vs:List Int) (j:Nat),(idx vs p).testBit j=(vs[j]?.map p).getD false
 | [],j=>by simp[idx]
 | v::vs,0=>by
  simp only[idx,Nat.testBit_zero,List.getElem?_cons_zero,Option.map_some,Option.getD_some]
  cases p v<;>simp<;>omega
 | v::vs,j+1=>by
  simp only[List.getElem?_cons_succ,←zeT p vs j,idx,Nat.testBit_succ]
  congr 1
  cases p v<;>simp<;>omega
theorem ziw{p q:Int→Bool}:∀{vs:List Int},(∀ v∈vs,p v=q v)→idx vs p=idx vs q
 | [],_=>rfl
 | v::vs,h=>by simp only[idx,h v (by simp),ziw (vs:=vs) (fun u hu=>h u (List.mem_cons_of_mem _ hu))]
def say(vs:List Int)(n:Nat):Int→Bool:=fun v=>n.testBit (vs.idxOf v)
theorem zmF{vs:List Int}(h:vs.Nodup){n:Nat}(hn:n<2^vs.length):idx vs (say vs n)=n:=by
 refine Nat.eq_of_testBit_eq fun j=>?_
 rw[zeT]
 by_cases hj:j<vs.length
 ·rw[List.getElem?_eq_getElem hj]
  simp only[Option.map_some,Option.getD_some,say]
  rw[List.Nodup.idxOf_getElem h]
 ·rw[List.getElem?_eq_none (by omega)]
  simp only[Option.map_none,Option.getD_none]
  rw[Nat.testBit_lt_two_pow (Nat.lt_of_lt_of_le hn (Nat.pow_le_pow_right (by decide) (by omega)))]
theorem zqu{vs:List Int}{v:Int}(hv:v∈vs)(p:Int→Bool):say vs (idx vs p) v=p v:=by
 rw[say,zeT,List.getElem?_eq_getElem (List.idxOf_lt_length_of_mem hv)]
 simp
def flip(p:Int→Bool)(v:Int):Int→Bool:=fun u=>if u=v then !p u else p u
theorem zo3{vs:List Int}(h:vs.Nodup)(p:Int→Bool){j:Nat}{v:Int}(hv:vs[j]?=some v):idx vs (flip p v)=idx vs p ^^^ 2^j:=by
 have hj:j<vs.length:=by
  rcases Nat.lt_or_ge j vs.length with h|h
  ·exact h
  ·rw[List.getElem?_eq_none h] at hv; cases hv
 refine Nat.eq_of_testBit_eq fun i=>?_
 rw[Nat.testBit_xor,zeT,zeT,Nat.testBit_two_pow]
 by_cases hi:i<vs.length
 ·rw[List.getElem?_eq_getElem hi]
  simp only[Option.map_some,Option.getD_some,flip]
  rw[List.getElem?_eq_getElem hj] at hv; cases hv
  by_cases hij:i=j
  ·subst hij; simp
  ·have:vs[i]≠vs[j]:=fun e=>hij (zj2 h e)
   have hji:j≠i:=fun e=>hij e.symm
   simp[this,hji]
 ·rw[List.getElem?_eq_none (by omega)]
  have hji:j≠i:=by omega
  simp[hji]
def sem(vs:List Int)(tab:List Nat)(p:Int→Bool):Nat:=tab.getD (idx vs p) 0
theorem zqv{vs:List Int}{tab:List Nat}{p q:Int→Bool}(h:∀ v∈vs,p v=q v):sem vs tab p=sem vs tab q:=by rw[sem,sem,ziw h]
theorem zwc{vs:List Int}{tab:List Nat}(hn:vs.Nodup)(hl:tab.length=2^vs.length){n:Nat}(h:n<tab.length):tab[n]=sem vs tab (say vs n):=by
 have h1:=zmF hn (n:=n) (by omega)
 simp[sem,h1,List.getD_eq_getElem?_getD,h]
def dep(f:(Int→Bool)→Nat)(v:Int):Prop:=∃ p,f p≠f (flip p v)
theorem zkD{vs:List Int}{tab:List Nat}(h:vs.Nodup)(hl:tab.length=2^vs.length){j:Nat}{v:Int}(hv:vs[j]?=some v):cnt tab j=true↔dep (sem vs tab) v:=by
 have get (n:Nat) (hn:n<tab.length):tab[n]?=some (tab.getD n 0):=by rw[List.getElem?_eq_getElem hn,List.getD_eq_getElem?_getD,List.getElem?_eq_getElem hn]; rfl
 have hj:j<vs.length:=by
  rcases Nat.lt_or_ge j vs.length with h|h
  ·exact h
  ·rw[List.getElem?_eq_none h] at hv; cases hv
 simp only[cnt,List.any_eq_true,List.mem_range,bne_iff_ne,ne_eq,dep,sem]
 constructor
 ·rintro⟨n,hn,hne⟩
  refine⟨say vs n,fun e=>hne ?_⟩
  rw[zo3 h _ hv,zmF h (by omega)] at e
  rw[get n hn,get _ (by rw[hl] at hn ⊢; exact Nat.xor_lt_two_pow hn (Nat.pow_lt_pow_right (by decide) hj)),e]
 ·rintro⟨p,hp⟩
  have h1:idx vs p<tab.length:=by rw[hl]; exact zgm vs p
  refine⟨idx vs p,h1,fun e=>hp ?_⟩
  rw[zo3 h _ hv]
  rw[get _ h1,get _ (by rw[hl] at h1 ⊢; exact Nat.xor_lt_two_pow h1 (Nat.pow_lt_pow_right (by decide) hj))] at e
  exact Option.some.inj e
theorem Right.deps{vs:List Int}{tab:List Nat}(h:Right vs tab){v:Int}(hv:v∈vs):dep (sem vs tab) v:=by
 obtain⟨j,hj,rfl⟩:=List.mem_iff_getElem.1 hv
 obtain⟨w,hw,_,_,_,hc⟩:=h.2.2 j hj
 exact(zkD h.up.nodup h.2.1 (List.getElem?_eq_getElem hj)).1 hc
theorem Right.of{vs:List Int}{tab:List Nat}(h4:vs.length≤4)(hl:tab.length=2^vs.length)(hu:Up vs)(hm:∀ v∈vs,0≤v∧v<34)(hd:∀ v∈vs,dep (sem vs tab) v):Right vs tab:=by
 refine⟨h4,hl,fun j hj=>⟨vs[j],List.getElem?_eq_getElem hj,(hm _ (List.getElem_mem hj)).1,(hm _ (List.getElem_mem hj)).2,?_,(zkD hu.nodup hl (List.getElem?_eq_getElem hj)).2 (hd _ (List.getElem_mem hj))⟩⟩
 intro u h0 hu'
 rw[List.getElem?_eq_getElem (by omega)] at hu'; cases hu'
 exact List.pairwise_iff_getElem.1 hu _ _ _ _ (by omega)
theorem zqw{vs:List Int}{tab:List Nat}{v:Int}(hv:v∉vs):¬dep (sem vs tab) v:=by
 rintro⟨p,hp⟩
 refine hp ?_
 simp only[sem]
 rw[ziw (p:=p) (q:=flip p v) fun u hu=>?_]
 have:u≠v:=fun e=>hv (e▸hu)
 simp[flip,this]
theorem zvm{vs vs':List Int}{tab tab':List Nat}(h:Right vs tab)(h':Right vs' tab')(hs:∀ p,sem vs tab p=sem vs' tab' p):vs=vs'∧tab=tab':=by
 have hf:sem vs tab=sem vs' tab':=funext hs
 have hv:vs=vs':=zsL h.up h'.up fun v=>by
  constructor
  ·intro hv
   have:=h.deps hv
   rw[hf] at this
   exact Decidable.byContradiction fun hn=>zqw hn this
  ·intro hv
   have:=h'.deps hv
   rw[←hf] at this
   exact Decidable.byContradiction fun hn=>zqw hn this
 subst hv
 refine⟨rfl,List.ext_getElem (by rw[h.2.1,h'.2.1]) fun n h1 h2=>?_⟩
 have:=hs (say vs n)
 simp only[sem] at this
 rw[zmF h.up.nodup (by rw[←h.2.1]; exact h1)] at this
 simpa[List.getD_eq_getElem?_getD,List.getElem?_eq_getElem h1,List.getElem?_eq_getElem h2] using this
def remT(tab:List Nat)(j:Nat):List Nat:=((List.range tab.length).filter fun n=>!n.testBit j).map fun n=>tab.getD n 0
def ins(j m:Nat):Nat:=2^(j+1)*(m/2^j)+m%2^j
theorem zkE(j m i:Nat):(ins j m).testBit i=if i<j then m.testBit i else if i=j then false else m.testBit (i-1):=by
 have h1:m%2^j<2^(j+1):=Nat.lt_of_lt_of_le (Nat.mod_lt _ (Nat.two_pow_pos j)) (Nat.pow_le_pow_right (by decide) (by omega))
 rw[ins,Nat.testBit_two_pow_mul_add _ h1]
 by_cases h:i<j
 ·rw[if_pos (by omega),if_pos h,Nat.testBit_mod_two_pow]; simp[h]
 ·rw[if_neg h]
  by_cases h2:i=j
  ·subst h2; rw[if_pos (by omega),if_pos rfl,Nat.testBit_mod_two_pow]; simp
  ·rw[if_neg (by omega),if_neg h2,Nat.testBit_div_two_pow]
   congr 1; omega
theorem zxv{j k m:Nat}(hj:j≤k)(hm:m<2^k):ins j m<2^(k+1):=by
 refine Nat.lt_pow_two_of_testBit _ fun i hi=>?_
 rw[zkE,if_neg (by omega)]
 split
 ·rfl
 ·exact Nat.testBit_lt_two_pow (Nat.lt_of_lt_of_le hm (Nat.pow_le_pow_right (by decide) (by omega)))
theorem zun{j a b:Nat}(h:a<b):ins j a<ins j b:=by
 have h3:a/2^j≤b/2^j:=Nat.div_le_div_right (Nat.le_of_lt h)
 have h1:=Nat.div_add_mod a (2^j)
 have h2:=Nat.div_add_mod b (2^j)
 have h4:=Nat.mod_lt a (Nat.two_pow_pos j)
 have h5:=Nat.mod_lt b (Nat.two_pow_pos j)
 simp only[ins,Nat.pow_succ]
 rcases Nat.lt_or_ge (a/2^j) (b/2^j) with h6|h6
 ·have:2^j*(a/2^j+1)≤2^j*(b/2^j):=Nat.mul_le_mul_left _ h6
  have e1:2^j*2*(a/2^j)=2*(2^j*(a/2^j)):=by rw[Nat.mul_comm (2^j) 2,Nat.mul_assoc]
  have e2:2^j*2*(b/2^j)=2*(2^j*(b/2^j)):=by rw[Nat.mul_comm (2^j) 2,Nat.mul_assoc]
  rw[Nat.mul_add] at this
  omega
 ·have e:a/2^j=b/2^j:=by omega
  rw[e] at h1 ⊢
  omega
theorem zuo{j n:Nat}(h:n.testBit j=false):∃ m,ins j m=n∧(∀ k,j≤k→n<2^(k+1)→m<2^k):=by
 refine⟨2^j*(n/2^(j+1))+n%2^j,?_,?_⟩
 ·refine Nat.eq_of_testBit_eq fun i=>?_
  have h1:n%2^j<2^j:=Nat.mod_lt _ (Nat.two_pow_pos j)
  rw[zkE,Nat.testBit_two_pow_mul_add _ h1,Nat.testBit_two_pow_mul_add _ h1]
  by_cases h2:i<j
  ·rw[if_pos h2,if_pos h2,Nat.testBit_mod_two_pow]; simp[h2]
  ·rw[if_neg h2]
   by_cases h3:i=j
   ·subst h3; simp[h]
   ·rw[if_neg h3,if_neg (by omega),Nat.testBit_div_two_pow]
    congr 1; omega
 ·intro k hk hn
  have h1:n%2^j<2^j:=Nat.mod_lt _ (Nat.two_pow_pos j)
  refine Nat.lt_pow_two_of_testBit _ fun i hi=>?_
  rw[Nat.testBit_two_pow_mul_add _ h1,if_neg (by omega),Nat.testBit_div_two_pow]
  exact Nat.testBit_lt_two_pow (Nat.lt_of_lt_of_le hn (Nat.pow_le_pow_right (by decide) (by omega)))
theorem zsN:∀{a b:List Nat},a.Pairwise (·<·)→b.Pairwise (·<·)→(∀ v,v∈a↔v∈b)→a=b
 | [],[],_,_,_=>rfl
 | [],y::b,_,_,h=>absurd ((h y).2 (by simp)) (by simp)
 | x::a,[],_,_,h=>absurd ((h x).1 (by simp)) (by simp)
 | x::a,y::b,ha,hb,h=>by
  have ha':=List.pairwise_cons.1 ha
  have hb':=List.pairwise_cons.1 hb
  have hxy:x=y:=by
   rcases List.mem_cons.1 ((h x).1 (by simp)) with e|e
   ·exact e
   rcases List.mem_cons.1 ((h y).2 (by simp)) with e'|e'
   ·exact e'.symm
   have:=hb'.1 x e; have:=ha'.1 y e'; omega
  subst hxy
  rw[zsN ha'.2 hb'.2 fun v=>?_]
  constructor
  ·intro hv
   have h1:=ha'.1 v hv
   rcases List.mem_cons.1 ((h v).1 (by simp[hv])) with e|e
   ·omega
   ·exact e
  ·intro hv
   have h1:=hb'.1 v hv
   rcases List.mem_cons.1 ((h v).2 (by simp[hv])) with e|e
   ·omega
   ·exact e
theorem zsO{k j:Nat}(hj:j≤k):((List.range (2^(k+1))).filter fun n=>!n.testBit j)=(List.range (2^k)).map (ins j):=by
 refine zsN (List.Pairwise.filter _ List.pairwise_lt_range) ?_ fun n=>?_
 ·rw[List.pairwise_map]
  exact List.pairwise_lt_range.imp fun h=>zun h
 ·simp only[List.mem_filter,List.mem_range,List.mem_map,Bool.not_eq_true']
  constructor
  ·rintro⟨h1,h2⟩
   obtain⟨m,hm,hk⟩:=zuo h2
   exact⟨m,hk k hj h1,hm⟩
  ·rintro⟨m,hm,rfl⟩
   refine⟨zxv hj hm,?_⟩
   rw[zkE,if_neg (by omega),if_pos rfl]
theorem zup{tab:List Nat}{k j:Nat}(hl:tab.length=2^(k+1))(hj:j≤k):(remT tab j).length=2^k:=by
 rw[remT,hl,zsO hj]; simp
theorem zuq{tab:List Nat}{k j m:Nat}(hl:tab.length=2^(k+1))(hj:j≤k)(hm:m<2^k):(remT tab j).getD m 0=tab.getD (ins j m) 0:=by
 rw[remT,hl,zsO hj]
 simp[List.getD_eq_getElem?_getD,hm]
theorem zwd{vs:List Int}{tab:List Nat}(h:vs.Nodup)(hl:tab.length=2^vs.length){j:Nat}(hj:j<vs.length)(hc:cnt tab j=false)(p:Int→Bool) :
  sem (vs.eraseIdx j) (remT tab j) p=sem vs tab p:=by
 obtain⟨k,hk⟩:∃ k,vs.length=k+1:=⟨vs.length-1,by omega⟩
 have hle:(vs.eraseIdx j).length=k:=by rw[List.length_eraseIdx_of_lt hj]; omega
 have hm:idx (vs.eraseIdx j) p<2^k:=by have:=zgm (vs.eraseIdx j) p; rwa[hle] at this
 have hv:vs[j]?=some vs[j]:=List.getElem?_eq_getElem hj
 have hnd:¬dep (sem vs tab) vs[j]:=fun hd=>by rw[(zkD h hl hv).2 hd] at hc; cases hc
 have key:ins j (idx (vs.eraseIdx j) p)=idx vs (fun u=>if u=vs[j] then false else p u):=by
  refine Nat.eq_of_testBit_eq fun i=>?_
  rw[zkE,zeT,zeT,zeT,List.getElem?_eraseIdx,List.getElem?_eraseIdx]
  by_cases h1:i<j
  ·rw[if_pos h1,if_pos h1]
   rw[List.getElem?_eq_getElem (by omega)]
   have:vs[i]≠vs[j]:=fun e=>by have:=zj2 h e; omega
   simp[this]
  ·rw[if_neg h1]
   by_cases h2:i=j
   ·subst h2; rw[if_pos rfl,hv]; simp
   ·rw[if_neg h2,if_neg (by omega),show i-1+1=i by omega]
    by_cases h3:i<vs.length
    ·rw[List.getElem?_eq_getElem h3]
     have:vs[i]≠vs[j]:=fun e=>by have:=zj2 h e; omega
     simp[this]
    ·rw[List.getElem?_eq_none (by omega)]; simp
 simp only[sem]
 rw[zuq (by rw[hl,hk]) (by omega) hm,key]
 show sem vs tab _=sem vs tab p
 by_cases hp:p vs[j]=false
 ·simp only[sem]
  rw[ziw (q:=p)]
  intro u _
  by_cases e:u=vs[j]
  ·simp[e,hp]
  ·simp[e]
 ·have:sem vs tab p=sem vs tab (flip p vs[j]):=Decidable.byContradiction fun e=>hnd ⟨p,e⟩
  rw[this]
  simp only[sem]
  rw[ziw (q:=flip p vs[j])]
  intro u _
  by_cases e:u=vs[j]
  ·simp only[flip,e,if_true]; cases hq:p vs[j]
   ·exact absurd hq hp
   ·rfl
  ·simp[flip,e]
def zat(f:Nat→Bool):Nat→Nat
 | 0=>0
 | k+1=>zat f k+2^k*(f k).toNat
theorem zbi(f:Nat→Bool):∀ k,zat f k<2^k
 | 0=>by simp[zat]
 | k+1=>by
  have:=zbi f k
  simp only[zat,Nat.pow_succ]
  cases f k<;>simp<;>omega
theorem zb0(f:Nat→Bool)(i:Nat):∀ k,(zat f k).testBit i=(decide (i<k)&&f i)
 | 0=>by simp[zat]
 | k+1=>by
  rw[zat,Nat.add_comm,Nat.testBit_two_pow_mul_add _ (zbi f k)]
  by_cases h:i<k
  ·rw[if_pos h,zb0 f i k]; simp[h,show i<k+1 by omega]
  ·rw[if_neg h]
   by_cases h2:i=k
   ·subst h2; simp
    cases f i<;>simp
   ·have h3:¬i<k+1:=by omega
    simp only[h3,decide_false,Bool.false_and]
    have:(f k).toNat<2^(i-k):=Nat.lt_of_lt_of_le (by cases f k<;>simp:(f k).toNat<2^1) (Nat.pow_le_pow_right (by decide) (by omega))
    exact Nat.testBit_lt_two_pow this
theorem zja{f g:Nat→Bool}:∀{k:Nat},(∀ i,i<k→f i=g i)→zat f k=zat g k
 | 0,_=>rfl
 | k+1,h=>by rw[zat,zat,zja fun i hi=>h i (by omega),h k (by omega)]
theorem zij{w:Nat}(h:w<2^32):zat w.testBit 32=w:=by
 refine Nat.eq_of_testBit_eq fun i=>?_
 rw[zb0]
 by_cases hi:i<32
 ·simp[hi]
 ·simp only[hi,decide_false,Bool.false_and]
  exact(Nat.testBit_lt_two_pow (Nat.lt_of_lt_of_le h (Nat.pow_le_pow_right (by decide) (by omega)))).symm
def val(vs:List Int)(tab:List Nat)(r:Int→Nat):Nat:=zat (fun i=>(sem vs tab fun v=>(r v).testBit i).testBit i) 32
end Go.Ev
/- What the functions of bits compute. -/
namespace Go.Ev
open Go Go.RowKit
variable {G:Tbl}
def FV(vars:List Int)(tab:List Nat):V:=.agg [.vs (ints .i64 vars) .no,.vs (nats .u32 tab) .no]
theorem zj3(hG:HasBits G)(vars:List Int)(tab:List Nat)(j:Nat)(hj:j<10)(hlen:tab.length≤100)(hin:∀ n,n<tab.length→n ^^^ 2^j<tab.length) :
  FP G 100 [FV vars tab,.int .i64 j] (.bool (cnt tab j)):=by
 refine zak hG.h_bits_counts (Nat.le_of_ble_eq_true rfl) ?_
 simp[FV]
 refine W_up tab.length (fun n=>[(1,.int .i64 j),(2,.ptr 0 0),(8,.int .i64 tab.length),(9,.int .i64 n)])
  (fun _=>[some (.cells [.vs (ints .i64 vars) .no,.vs (nats .u32 tab) .no])]) (fun n=>∀ m,m<n→tab[m]?=tab[m ^^^ 2^j]?) ?_ ?_
 ·simp[zaa,zac]
 intro n hn hall
 by_cases hlt:n<tab.length
 ·have h1:tab[n]?=some tab[n]:=List.getElem?_eq_getElem hlt
  have h2:tab[n ^^^ 2^j]?=some (tab[n ^^^ 2^j]'(hin n hlt)):=List.getElem?_eq_getElem (hin n hlt)
  have hp:2^j<2^63:=Nat.pow_lt_pow_right (by decide) (by omega)
  have h3:shlI .i64 1 (j:Int)=((2^j:Nat):Int):=shl1 (by omega)
  have h4:xorI .i64 (n:Int) ((2^j:Nat):Int)=((n ^^^ 2^j:Nat):Int):=zA5 (by omega) hp
  have h5:¬(j:Int)<0:=by omega
  have h6:addI .i64 (n:Int) 1=((n+1:Nat):Int):=add1 hlt (by omega)
  simp[hlt,h3,h4,h5,h6,hin n hlt,-Int.natCast_pow,-Int.natCast_add]
  rw[zi3]
  split
  ·rename_i he
   simp at he
   simp only[zAS,zug,zAZ,Ws]
   simp[cnt]
   exact⟨n,hlt,by rw[h1,h2]; simpa using he⟩
  ·rename_i he
   simp at he
   simp[hlt,h6,zaa,zac,-Int.natCast_add]
   intro m hm
   by_cases hmn:m=n
   ·subst hmn; rw[h1,h2,he]
   ·exact hall m (by omega)
 ·have hnl:n=tab.length:=by omega
  subst hnl
  simp[cnt]
  exact hall
theorem zo4{vars:List Int}{tab:List Nat}(h:vars.length≤4)(ht:tab.length=2^vars.length){j:Nat}(hj:j<vars.length):∀ n,n<tab.length→n ^^^ 2^j<tab.length:=by
 intro n hn
 rw[ht] at hn ⊢
 exact Nat.xor_lt_two_pow hn (Nat.pow_lt_pow_right (by decide) hj)
theorem zcd{vars:List Int}{tab:List Nat}(h:vars.length≤4)(ht:tab.length=2^vars.length):tab.length≤16:=by
 rw[ht]; exact Nat.pow_le_pow_right (by decide) h
theorem zbK(hG:HasBits G)(vars:List Int)(tab:List Nat)(hv:vars.length≤9223372036854775807)(ht:tab.length≤9223372036854775807):FP G 101 [FV vars tab] (.bool (zbJ vars tab)):=by
 refine zak hG.h_bits_Right (Nat.le_of_ble_eq_true rfl) ?_
 simp[FV]
 by_cases h4:vars.length≤4
 ·by_cases h7:tab.length=2^vars.length
  ·have hsm:=zcd h4 h7
   simp(disch:=omega)[leT,leF,ltT,ltF,ltTn,ltFn,shl1,h7,-Int.natCast_pow]
   refine W_up vars.length (fun n=>[(1,.ptr 0 0),(20,.vs (ints .i64 vars) .no),(21,.int .i64 vars.length),(22,.int .i64 n)])
    (fun _=>[some (.cells [.vs (ints .i64 vars) .no,.vs (nats .u32 tab) .no])]) (fun n=>∀ m,m<n→okAt vars tab m) ?_ ?_
   ·simp[zaa,zac]
   intro n hn hall
   by_cases hlt:n<vars.length
   ·have hbad:¬okAt vars tab n→zbJ vars tab=false:=fun h=>by simp only[zbJ,decide_eq_false_iff_not]; exact fun hR=>h (hR.2.2 n hlt)
    have hgood:okAt vars tab n→∀ m,m<n+1→okAt vars tab m:=fun h m hm=>by
     by_cases hmn:m=n
     ·subst hmn; exact h
     ·exact hall m (by omega)
    have h1:vars[n]?=some vars[n]:=List.getElem?_eq_getElem hlt
    by_cases ha:vars[n]<0
    ·simp(disch:=omega)[leT,leF,ltT,ltF,ltTn,ltFn,zal]
     exact hbad (by rintro⟨v,hv,h0,_⟩; rw[h1] at hv; cases hv; omega)
    by_cases hb:vars[n]<34
    ·by_cases hd:0<n
     ·have h2:vars[n-1]?=some vars[n-1]:=List.getElem?_eq_getElem (by omega)
      by_cases hg:vars[n-1]<vars[n]
      ·simp(disch:=omega)[leT,leF,ltT,ltF,ltTn,ltFn,zal,zl9,zag,-Int.natCast_add]
       refine zab (zj3 hG vars tab n (by omega) (by omega) (zo4 h4 h7 hlt)) ?_
       cases hk:cnt tab n<;>simp(disch:=omega)[hlt,zaa,zac,zag,-Int.natCast_add]
       ·exact hbad (by rintro⟨v,hv,h0,_,_,hh⟩; rw[hk] at hh; cases hh)
       ·exact hgood ⟨_,h1,by omega,hb,fun u _ hu=>by rw[h2] at hu; cases hu; exact hg,hk⟩
      ·simp(disch:=omega)[leT,leF,ltT,ltF,ltTn,ltFn,zal,zl9,-Int.natCast_add]
       exact hbad (by rintro⟨v,hv,h0,_,hu,_⟩; rw[h1] at hv; cases hv; exact hg (hu _ hd h2))
     ·have hn0:n=0:=by omega
      subst hn0
      simp(disch:=omega)[leT,leF,ltT,ltF,ltTn,ltFn,zal,zag,-Int.natCast_add]
      refine zab (zj3 hG vars tab 0 (by omega) (by omega) (zo4 h4 h7 hlt)) ?_
      cases hk:cnt tab 0<;>simp(disch:=omega)[hlt,zaa,zac,zav]
      ·exact hbad (by rintro⟨v,hv,h0,_,_,hh⟩; rw[hk] at hh; cases hh)
      ·exact⟨_,h1,by omega,hb,fun u hu=>absurd hu (by omega),hk⟩
    ·simp(disch:=omega)[leT,leF,ltT,ltF,ltTn,ltFn,zal]
     exact hbad (by rintro⟨v,hv,h0,_⟩; rw[h1] at hv; cases hv; omega)
   ·have hnl:n=vars.length:=by omega
    subst hnl
    have:zbJ vars tab=true:=by simp only[zbJ,decide_eq_true_eq]; exact⟨h4,h7,hall⟩
    simp[this]
  ·have h8:¬((tab.length:Int)=((2^vars.length:Nat):Int)):=by
    simp only[Int.ofNat_inj]; exact h7
   simp(disch:=omega)[leT,leF,ltT,ltF,ltTn,ltFn,shl1,bneT h8,-Int.natCast_pow]
   simp[zbJ,Right,h7]
 ·simp(disch:=omega)[leT,leF,ltT,ltF]
  simp[zbJ,Right,h4]
end Go.Ev
/- What the functions of bits compute: the smaller ones. -/
namespace Go.Ev
open Go Go.RowKit
variable {G:Tbl}
def doW(kind:Int)(a b:Nat):Nat×Bool :=
 if kind=4 then((a+b)%4294967296,true) else if kind=20 then((a+4294967296-b)%4294967296,true) else if kind=36 then(a*b%4294967296,true)
 else if kind=52 then(if b=0 then(0,false) else(a/b,true)) else if kind=68 then(a ||| b,true) else if kind=84 then(a &&& b,true)
 else if kind=100 then(a*2^(b%32)%4294967296,true) else if kind=116 then(a/2^(b%32),true) else if kind=164 then(a ^^^ b,true) else(0,false)
theorem zgn(n:Int):IntKind.u32.wrap n=n%4294967296:=rfl
theorem zix(hG:HasWd G)(kind:Int)(a b:Nat)(ha:a<4294967296)(hb:b<4294967296) :
  FP G 107 [.int .i64 kind,.int .u32 a,.int .u32 b] (.tup [.int .u32 ((doW kind a b).1:Nat),.bool (doW kind a b).2]):=by
 refine zak hG.h_word_Do (Nat.le_of_ble_eq_true rfl) ?_
 simp
 by_cases h:kind=4
 ·subst h; simp[doW]; simp[addI,zgn]
 by_cases h:kind=20
 ·subst h; simp[doW]; simp[subI,zgn]; omega
 by_cases h:kind=36
 ·subst h; simp[doW]; simp[mulI,zgn]
 by_cases h:kind=52
 ·subst h
  by_cases hz:b=0
  ·subst hz; simp[doW]
  ·simp(disch:=omega)[doW,hz,beqF]
   simp[zrq ha hz,hz]
 by_cases h:kind=68
 ·subst h; simp[doW]; exact or32 ha hb
 by_cases h:kind=84
 ·subst h; simp[doW]; exact zn7 ha hb
 by_cases h:kind=100
 ·subst h
  have h1:b%32≤32:=by omega
  simp(disch:=omega)[doW,zvl hb,zn9 h1,ltF,-Int.natCast_emod]
 by_cases h:kind=116
 ·subst h
  have h1:b%32≤32:=by omega
  simp(disch:=omega)[doW,zvl hb,zi5 h1,ltF,-Int.natCast_emod]
 by_cases h:kind=164
 ·subst h; simp[doW]; exact zA7 ha hb
 simp(disch:=omega)[doW,beqF, *]
theorem zo5(hG:HasBits G)(c:Nat):FP G 102 [.int .u32 (c:Int)] (FV [] [c]):=by
 refine zak hG.h_bits_Const (Nat.le_of_ble_eq_true rfl) ?_
 simp[FV,nats]
theorem zxw(hG:HasBits G)(i:Int):FP G 103 [.int .i64 i] (if 0≤i∧i<34 then .tup [FV [i] [0,4294967295],.int .i64 0] else .tup [FV [] [],.int .i64 1]):=by
 refine zak hG.h_bits_Var (Nat.le_of_ble_eq_true rfl) ?_
 by_cases h1:i<0
 ·simp(disch:=omega)[FV,nats,ints,leT,leF,ltT,ltF]
 ·by_cases h2:i<34
  ·simp(disch:=omega)[FV,nats,ints,leT,leF,ltT,ltF]
  ·simp(disch:=omega)[FV,nats,ints,leT,leF,ltT,ltF]
theorem zhw(hG:HasBits G)(a b:List Int)(hl:a.length+b.length≤1000) :
  FP G 104 [.vs (ints .i64 a) .no,.vs (ints .i64 b) .no] (.vs (ints .i64 (mer a b)) .no):=by
 refine zak hG.h_bits_union (Nat.le_of_ble_eq_true rfl) ?_
 simp
 refine zfZ (fun s:List Int×List Int×List Int=>s.2.1.length+s.2.2.length)
  (fun s=>[(0,.vs (ints .i64 s.2.1) .no),(1,.vs (ints .i64 s.2.2) .no),(5,.vs (ints .i64 s.1) (.own 0))]) (fun s=>[some (.zone s.1.length)])
  (fun s=>s.1++mer s.2.1 s.2.2=mer a b∧s.1.length+s.2.1.length+s.2.2.length≤1000) ([],a,b) ?_ ?_
 ·simp[zaa,zac,hl]
 rintro⟨out,x,y⟩ ⟨hm,hs⟩
 simp only at hm hs
 cases x with
 | nil =>
  cases y with
  | nil=>simp[mer] at hm; simp[zav,hm]
  | cons v y =>
   simp only[List.length_cons,List.length_nil] at hs
   simp(disch:=omega)[zav,ltT,ltF,leTn,zbP,eqF,eqT,beqF,zbC,leT]
   refine⟨(out++[v],[],y),?_⟩
   simp[mer] at hm
   simp[hm,zaa,zac,zbP,mer,zg5]
   omega
 | cons u x =>
  cases y with
  | nil =>
   simp only[List.length_cons,List.length_nil] at hs
   simp(disch:=omega)[zav,ltT,ltF,leTn,zbP,eqF,eqT,beqF,zbC,leT]
   refine⟨(out++[u],x,[]),?_⟩
   simp[mer,zg5] at hm
   simp[hm,zaa,zac,zbP,mer,zg5]
   omega
  | cons v y =>
   simp only[List.length_cons,List.length_nil] at hs
   rw[mer] at hm
   by_cases h1:u<v
   ·simp(disch:=omega)[zav,ltT,ltF,leTn,zbP,eqF,eqT,beqF,zbC,leT]
    refine⟨(out++[u],x,v::y),?_⟩
    simp[h1] at hm
    simp[hm,zaa,zac,zbP,mer,zg5]
    omega
   ·by_cases h2:v<u
    ·simp(disch:=omega)[zav,ltT,ltF,leTn,zbP,eqF,eqT,beqF,zbC,leT]
     refine⟨(out++[v],u::x,y),?_⟩
     simp[h1,h2] at hm
     simp[hm,zaa,zac,zbP,mer,zg5]
     omega
    ·simp(disch:=omega)[zav,ltT,ltF,leTn,zbP,eqF,eqT,beqF,zbC,leT]
     refine⟨(out++[u],x,y),?_⟩
     simp[h1,h2] at hm
     simp[hm,zaa,zac,zbP,mer,zg5]
     omega
theorem zsP{k j b:Nat}(hk:k<2^j)(hb:b≤1):k ||| b*2^j=k+2^j*b:=by
 rw[Nat.mul_comm b,Nat.or_comm,←Nat.two_pow_add_eq_or_of_lt hk]; omega
theorem zb3(n i:Nat):n/2^i%2=(n.testBit i).toNat:=by
 rw[Nat.testBit_eq_decide_div_mod_eq]
 rcases Nat.mod_two_eq_zero_or_one (n/2^i) with h|h<;>simp[h]
theorem and1{b:Nat}(hb:b<9223372036854775808):andI .i64 (b:Int) 1=((b%2:Nat):Int):=by
 have:=zA6 (a:=b) (b:=1) hb (by decide)
 rw[show((1:Nat):Int)=1 from rfl] at this
 rw[this,show(1:Nat)=2^1-1 from rfl,Nat.and_two_pow_sub_one_eq_mod]
theorem zoa(hG:HasBits G)(fv:List Int)(tab:List Nat)(vs:List Int)(n:Nat)(hl:tab.length=2^fv.length)(hs:fv.Sublist vs)(hnd:vs.Nodup)(hv:vs.length≤30)(hn:n<2^31) :
  FP G 105 [FV fv tab,.vs (ints .i64 vs) .no,.int .i64 n] (.int .u32 (sem fv tab (say vs n):Nat)):=by
 have hfl:=hs.length_le
 refine zak hG.h_bits_at (Nat.le_of_ble_eq_true rfl) ?_
 simp[FV]
 refine zfZ (fun s:Nat×Nat=>vs.length-s.1)
  (fun s=>[(2,.int .i64 n),(3,.ptr 0 0),(7,.int .i64 (idx (fv.take s.2) (say vs n):Nat)),(8,.int .i64 s.2),(11,.vs (ints .i64 vs) .no),(12,.int .i64 vs.length),(13,.int .i64 s.1)])
  (fun _=>[some (.cells [.vs (ints .i64 fv) .no,.vs (nats .u32 tab) .no])]) (fun s=>s.1≤vs.length∧s.2≤fv.length∧(fv.drop s.2).Sublist (vs.drop s.1)) (0,0) ?_ ?_
 ·simp[zaa,zac,hs,idx]
 rintro⟨i,j⟩ ⟨hi,hj,hsub⟩
 simp only at hi hj hsub
 by_cases hlt:i<vs.length
 ·have hvi:vs.drop i=vs[i]::vs.drop (i+1):=List.drop_eq_getElem_cons hlt
  by_cases hjl:j<fv.length
  ·have hfj:fv.drop j=fv[j]::fv.drop (j+1):=List.drop_eq_getElem_cons hjl
   by_cases he:fv[j]=vs[i]
   ·have hk:idx (fv.take j) (say vs n)<2^j:=by have:=zgm (fv.take j) (say vs n); rwa[List.length_take,Nat.min_eq_left hj] at this
    have h30:2^j≤2^30:=Nat.pow_le_pow_right (by decide) (by omega)
    have h1:n/2^i<9223372036854775808:=Nat.lt_of_le_of_lt (Nat.div_le_self _ _) (by omega)
    have h2:n/2^i%2≤1:=by omega
    have h3:n/2^i%2*2^j≤1*2^j:=Nat.mul_le_mul_right _ h2
    have h4:idx (fv.take (j+1)) (say vs n)=idx (fv.take j) (say vs n) ||| n/2^i%2*2^j:=by
     rw[zsP hk h2,List.take_add_one,zi9,List.getElem?_eq_getElem hjl,List.length_take,Nat.min_eq_left hj,zb3]
     simp only[Option.toList_some,idx,say,he,List.Nodup.idxOf_getElem hnd,Nat.mul_zero,Nat.add_zero]
    simp(disch:=omega)[ltT,zal,he,zej,and1 h1,zrp,or64,zag,ltF,-Int.natCast_add,-Int.natCast_mul,-Int.natCast_pow,-Int.natCast_emod,-Int.natCast_ediv]
    refine⟨(i+1,j+1),?_⟩
    simp[zaa,zac,h4,-Int.natCast_add]
    and_intros<;>first|omega|skip
    rw[hfj,hvi,he] at hsub
    exact List.cons_sublist_cons.1 hsub
   ·simp(disch:=omega)[ltT,zal,zag,beqF he,-Int.natCast_add]
    refine⟨(i+1,j),?_⟩
    simp[zaa,zac,-Int.natCast_add]
    and_intros<;>first|omega|skip
    rw[hfj,hvi] at hsub
    rw[hfj]
    rcases List.sublist_cons_iff.1 hsub with h|⟨r,hr,_⟩
    ·exact h
    ·exact absurd (List.cons.inj hr).1 he
  ·simp(disch:=omega)[ltT,ltF,zal,zag,-Int.natCast_add]
   refine⟨(i+1,j),?_⟩
   simp[zaa,zac,-Int.natCast_add]
   and_intros<;>first|omega|skip
   rw[List.drop_eq_nil_of_le (as:=fv) (by omega)]
   exact List.nil_sublist _
 ·have hjl:j=fv.length:=by
   rw[List.drop_eq_nil_of_le (as:=vs) (by omega)] at hsub
   have:=List.drop_eq_nil_iff.1 (List.sublist_nil.1 hsub)
   omega
  subst hjl
  have:=zgm fv (say vs n)
  simp(disch:=omega)[ltF,zal,sem,List.getD_eq_getElem?_getD]
end Go.Ev
/- Lemmas that many texts use. -/
namespace Go.Ev
open Go Go.RowKit
variable {G:Tbl}
def za8(H:Heap):Prop:=∀ m,H.length≤m→H.map (Option.map (Blk.cl m))=H
theorem zgR{H:Heap}(h:za8 H)(r:Heap)(n:Nat):zac (H.length+n) (H++r)=H++(r.take n).map (Option.map (Blk.cl (H.length+n))):=by
 unfold zac
 rw[List.take_append,List.map_append]
 congr 1
 ·rw[List.take_of_length_le (by omega)]; exact h _ (by omega)
 ·congr 2; omega
theorem zhx{ro:Bool}{f:Nat}{args:List V}{r:V}{H H1:Heap}{K:List Kt}{e:Env}{Q:Ex→Env→Heap→Prop}{base:Nat}{d:Option Nat}{os:List SOper}(h:Big G (.F f args H r H1))(hro:ro=true→base≤H.length∧H1.take H.length=H)
  (hr:WO G base os K (e.put d r) H1 Q):zvj G ro f args base d os K e H Q:=⟨r,H1,h,hro,hr⟩
def negW(a:Nat):Nat:=(4294967296-a)%4294967296
theorem zob(kind:Int){a b:Nat}(ha:a<4294967296)(hb:b<4294967296):(doW kind a b).1<4294967296:=by
 have h1:=Nat.or_lt_two_pow (n:=32) ha hb
 have h2:=Nat.and_lt_two_pow (n:=32) a hb
 have h3:=Nat.xor_lt_two_pow (n:=32) ha hb
 have h4:a/b≤a:=Nat.div_le_self _ _
 have h5:a/2^(b%32)≤a:=Nat.div_le_self _ _
 unfold doW
 repeat' split
 all_goals first
  | (simp only; omega)
  | (simp only; exact Nat.mod_lt _ (by decide))
def zaL(l:List Bool):List (List V):=l.map fun b=>[.bool b]
@[simp] theorem zxx (l:List Bool):(zaL l).length=l.length:=by simp[zaL]
@[simp] theorem zBB (l:List Bool) (i:Nat):(zaL l)[i]?=(l[i]?).map fun b=>[.bool b]:=by simp[zaL]
@[simp] theorem zBC:zaL []=[]:=rfl
@[simp] theorem zBa (l:List Bool) (x:Bool):zaL l++[[.bool x]]=zaL (l++[x]):=by simp[zaL]
@[simp] theorem zBV (l:List Bool):(∀ f∈zaL l,f.length=1)=True:=by
 simp only[eq_iff_iff,iff_true]
 intro f hf
 simp only[zaL,List.mem_map] at hf
 obtain⟨x,_,rfl⟩:=hf
 rfl
end Go.Ev
/- A nil book: the law SymNil. -/
namespace Go.Ev
open Go Go.RowKit
variable {G:Tbl}
theorem za8.self{H:Heap}(h:za8 H):zac H.length H=H:=by
 have:=zgR h [] 0
 simpa using this
theorem za8.back{H:Heap}(h:za8 H)(r:Heap):zac H.length (H++r)=H:=by
 have:=zgR h r 0
 simpa using this
theorem za8.app{H:Heap}(h:za8 H){r:Heap}(hr:∀ n,r.map (Option.map (Blk.cl n))=r):za8 (H++r):=by
 intro m hm
 rw[List.map_append,hr,h m (by rw[List.length_append] at hm; omega)]
theorem za8.nil:za8 []:=fun _ _=>rfl
structure Nd where
 kind:Nat
 f:List Nat
 n:Nat
 vars:List Nat
 tab:List Nat
 op:Int
 x:Nat
 y:Nat
 deriving DecidableEq
def Nd.cs(a:Nd):List V:=.int .i64 (a.kind:Int)::(zad .u32 a.f++.int .i64 (a.n:Int)::(zad .i64 a.vars++(zad .u32 a.tab++[.int .i64 a.op,.int .i64 (a.x:Int),.int .i64 (a.y:Int)])))
def Nd0:Nd:=⟨0,zae 35,0,zae 4,zae 16,0,0,0⟩
theorem nz:(V.int .i64 0::(zad .u32 (zae 35)++V.int .i64 0::V.int .i64 0::V.int .i64 0::V.int .i64 0::V.int .i64 0::(zad .u32 (zae 16)++[V.int .i64 0,V.int .i64 0,V.int .i64 0])))=Nd0.cs:=rfl
def Nd.ok(a:Nd):Prop:=a.f.length=35∧a.vars.length=4∧a.tab.length=16
theorem Nd.len{a:Nd}(h:a.ok):a.cs.length=60:=by simp[Nd.cs,h.1,h.2.1,h.2.2]
def zas(f:List Nat):Nd:={ Nd0 with f:=f }
theorem zur(f:List Nat)(hf:f.length=35)(e:Env)(t:Nat)(he:e t=.agg (zad .u32 f)):za6 e Nd0.cs [(0,1,.c (.int .i64 0)),(1,35,.t t)]=some (zas f).cs:=by
 have hl:(zad .u32 f).length=35:=by simp[hf]
 have hd:∀ r:List V,(zad .u32 (zae 35)++r).drop 35=r:=fun r=>by rw[List.drop_left' (by simp)]
 simp[za6,he,Nd0,Nd.cs,hl,hd,zas]
theorem zik[HasAffine G](c:Nat):FP G 243 [.int .u32 c] (.agg (zad .u32 (c::zae 34))):=by
 refine zak HasAffine.h_affine_Const (Nat.le_of_ble_eq_true rfl) ?_
 have hz:zad .u32 (zae 35)=.int .u32 0::zad .u32 (zae 34):=rfl
 have hc:zad .u32 (c::zae 34)=.int .u32 (c:Int)::zad .u32 (zae 34):=rfl
 simp[hz,hc]
def varL(i:Nat):List Nat:=(zae 35).set (i+1) 1
theorem zj4[HasAffine G](i:Nat)(hi:i<34):FP G 244 [.int .i64 i] (.tup [.agg (zad .u32 (varL i)),.int .i64 0]):=by
 refine zak HasAffine.h_affine_Var (Nat.le_of_ble_eq_true rfl) ?_
 have hz:zad .u32 (zae 35)=.int .u32 0::zad .u32 (zae 34):=rfl
 have cs:=zbs .u32 (zae 34) i 1 (by simp; omega)
 have hv:zad .u32 (varL i)=.int .u32 0::zad .u32 ((zae 34).set i 1):=by
  rw[varL,show zae 35=0::zae 34 from rfl,List.set_cons_succ]; rfl
 have ht1:∀(a:V) (l:List V),(a::l).take (1+i)=a::l.take i:=fun a l=>by rw[Nat.add_comm]; rfl
 have hc1:(1:Int)=((1:Nat):Int):=rfl
 have hd:(zad .u32 (zae 34)).take i++V.int .u32 1::(zad .u32 (zae 34)).drop (1+i)=zad .u32 ((zae 34).set i 1):=by rw[Nat.add_comm]; exact cs
 have hlv:((zae 34).set i 1).length=34:=by simp
 have htv:=zaj (k:=.u32) hlv
 simp(disch:=omega)[ltT,ltF,leF,leTn,hz,hv,hd,ht1,hi,htv]
theorem zsQ[HasAffine G](i:Int)(hi:i<0∨34≤i):FP G 244 [.int .i64 i] (.tup [.agg (zad .u32 (zae 35)),.int .i64 1]):=by
 refine zak HasAffine.h_affine_Var (Nat.le_of_ble_eq_true rfl) ?_
 by_cases h:i<0
 ·simp[h]
 ·have h2:(34≤i)=True:=eq_true (by omega)
  have h1:(i<0)=False:=eq_false h
  simp[h1,h2]
end Go.Ev
/- A book in memory: its values, and their numbers. -/
namespace Go.Ev
open Go Go.RowKit
variable {G:Tbl}
/-! Cells that are alike. -/
theorem zdP:∀{k1 k2:List Kd} {a b c d:List V} {x y:Bool},eqks k1 a b=some x→eqks k2 c d=some y→eqks (k1++k2) (a++c) (b++d)=some (x&&y)
 | [],k2,[],[],c,d,x,y,h1,h2=>by simp only[eqks,Option.some.injEq] at h1; subst h1; simpa using h2
 | [],_,[],_::_,_,_,_,_,h,_=>by simp[eqks] at h
 | [],_,_::_,_,_,_,_,_,h,_=>by simp[eqks] at h
 | _::_,_,[],_,_,_,_,_,h,_=>by simp[eqks] at h
 | _::_,_,_::_,[],_,_,_,_,h,_=>by simp[eqks] at h
 | k::k1,k2,a::as,b::bs,c,d,x,y,h1,h2=>by
  simp only[eqks] at h1
  split at h1
  case h_2=>cases h1
  rename_i u v hu hv
  simp only[Option.some.injEq] at h1
  subst h1
  simp only[List.cons_append,eqks,hu,zdP hv h2,Bool.and_assoc]
theorem zhy(k:IntKind):∀{n:Nat} {a b:List Nat},a.length=n→b.length=n→eqks (List.replicate n .int) (zad k a) (zad k b)=some (decide (a=b))
 | 0,[],[],_,_=>rfl
 | 0,_::_,_,h,_=>by simp at h
 | 0,[],_::_,_,h=>by simp at h
 | n+1,[],_,h,_=>by simp at h
 | n+1,_::_,[],_,h=>by simp at h
 | n+1,x::a,y::b,h1,h2=>by
  have ih:=zhy k (n:=n) (a:=a) (b:=b) (by simpa using h1) (by simpa using h2)
  rw[List.replicate_succ]
  show eqks (.int::List.replicate n .int) (.int k (x:Int)::zad k a) (.int k (y:Int)::zad k b)=_
  simp only[eqks,eqk,if_true,ih,Option.some.injEq]
  rw[Bool.eq_iff_iff]
  simp
theorem zhz(k:IntKind)(x y:Int):eqks [.int] [.int k x] [.int k y]=some (decide (x=y)):=by
 simp only[eqks,eqk,if_true,Bool.and_true]
 congr 1
theorem zmG{a b:Nd}(ha:a.ok)(hb:b.ok):eqks (List.replicate 60 .int) a.cs b.cs=some (decide (a=b)):=by
 have h:=zdP (zhz .i64 a.kind b.kind) (zdP (zhy .u32 ha.1 hb.1) (zdP (zhz .i64 a.n b.n) (zdP (zhy .i64 ha.2.1 hb.2.1) (zdP (zhy .u32 ha.2.2 hb.2.2)
  (zdP (zhz .i64 a.op b.op) (zdP (zhz .i64 a.x b.x) (zhz .i64 a.y b.y)))))))
 have hk:List.replicate 60 Kd.int=[Kd.int]++(List.replicate 35 .int++([.int]++(List.replicate 4 .int++(List.replicate 16 .int++([.int]++([.int]++[.int])))))):=rfl
 rw[hk]
 have e1:∀ c:Nd,c.cs=[.int .i64 (c.kind:Int)]++(zad .u32 c.f++([.int .i64 (c.n:Int)]++(zad .i64 c.vars++(zad .u32 c.tab++([.int .i64 c.op]++([.int .i64 (c.x:Int)]++[.int .i64 (c.y:Int)])))))):=fun c=>by simp[Nd.cs]
 rw[e1 a,e1 b,h]
 congr 1
 rw[Bool.eq_iff_iff]
 cases a; cases b
 simp
def zdt(i:Nat):List Nd→List (V×V)
 | []=>[]
 | a::L=>(.agg a.cs,.int .i64 (i:Int))::zdt (i+1) L
def ents(L:List Nd):List (V×V):=zdt 0 L
theorem znx(a:Nd):∀(L:List Nd) (i:Nat),zdt i (L++[a])=zdt i L++[(.agg a.cs,.int .i64 ((i+L.length:Nat):Int))]
 | [],i=>by simp[zdt]
 | b::L,i=>by
  have:=znx a L (i+1)
  simp only[List.cons_append,zdt,this,List.length_cons]
  rw[show i+1+L.length=i+(L.length+1) by omega]
theorem zo6{a:Nd}(ha:a.ok):∀{L:List Nd} (i:Nat),(∀ x∈L,x.ok)→a∈L→zbx (.row (List.replicate 60 .int)) (.agg a.cs) (zdt i L) i=some (some (i+L.idxOf a,.int .i64 ((i+L.idxOf a:Nat):Int)))
 | [],i,_,h=>by cases h
 | b::L,i,hL,h=>by
  simp only[zdt,zbx,zbd,zmG ha (hL b (by simp))]
  by_cases e:a=b
  ·subst e; simp
  ·have hm:a∈L:=by simpa[e] using h
   have ih:=zo6 ha (i+1) (fun x hx=>hL x (by simp[hx])) hm
   have hix:(b::L).idxOf a=L.idxOf a+1:=by rw[List.idxOf_cons,beq_false_of_ne (Ne.symm e)]; rfl
   simp only[e,decide_false,ih,hix,show i+1+L.idxOf a=i+(L.idxOf a+1) from by omega]
theorem zny{a:Nd}(ha:a.ok):∀{L:List Nd} (i:Nat),(∀ x∈L,x.ok)→a∉L→zbx (.row (List.replicate 60 .int)) (.agg a.cs) (zdt i L) i=some none
 | [],i,_,_=>rfl
 | b::L,i,hL,h=>by
  simp only[List.mem_cons,not_or] at h
  simp only[zdt,zbx,zbd,zmG ha (hL b (by simp)),h.1,decide_false]
  exact zny ha (i+1) (fun x hx=>hL x (by simp[hx])) h.2
def nds(L:List Nd):List (List V):=L.map Nd.cs
def zd0(L:List Nd)(z m:Nat):Blk:=.cells [.vs (nds L) (.own z),.mp m]
structure Bk (H:Heap) (b z m:Nat) (L:List Nd):Prop where
 hb:H[b]?=some (some (zd0 L z m))
 hz:H[z]?=some (some (.zone L.length))
 hm:H[m]?=some (some (.map (ents L)))
 shut:za8 H
 ok:∀ a∈L,a.ok
 small:L.length≤1000000
def upd(H:Heap)(b z m:Nat)(L:List Nd):Heap:=((H.set b (some (zd0 L z m))).set z (some (.zone L.length))).set m (some (.map (ents L)))
theorem zbf(H:Heap)(b z m:Nat)(L:List Nd):(upd H b z m L).length=H.length:=by simp[upd]
section
variable {H:Heap} {b z m:Nat} {L L':List Nd}
theorem Bk.bz(h:Bk H b z m L):b≠z:=fun e=>by have h1:=h.hb; rw[e,h.hz] at h1; simp[zd0] at h1
theorem Bk.bm(h:Bk H b z m L):b≠m:=fun e=>by have h1:=h.hb; rw[e,h.hm] at h1; simp[zd0] at h1
theorem Bk.zm(h:Bk H b z m L):z≠m:=fun e=>by have h1:=h.hz; rw[e,h.hm] at h1; simp at h1
theorem Bk.lb(h:Bk H b z m L):b<H.length:=(List.getElem?_eq_some_iff.1 h.hb).1
theorem Bk.lz(h:Bk H b z m L):z<H.length:=(List.getElem?_eq_some_iff.1 h.hz).1
theorem Bk.lm(h:Bk H b z m L):m<H.length:=(List.getElem?_eq_some_iff.1 h.hm).1
theorem zeC{α:Type}{l:List α}{i:Nat}{a:α}(h:l[i]?=some a):l.set i a=l:=by
 apply List.ext_getElem?
 intro j
 rw[List.getElem?_set]
 by_cases e:i=j
 ·subst e
  rw[if_pos rfl,if_pos (List.getElem?_eq_some_iff.1 h).1,h]
 ·rw[if_neg e]
theorem Bk.upd_self(h:Bk H b z m L):upd H b z m L=H:=by
 unfold upd
 rw[zeC h.hb,zeC h.hz,zeC h.hm]
theorem zmH(n:Nat):∀(L:List Nd) (i:Nat),(zdt i L).map (fun p=>(p.1.cl n,p.2.cl n))=zdt i L
 | [],i=>rfl
 | a::L,i=>by
  have ih:=zmH n L (i+1)
  have hc:clL n a.cs=a.cs:=by rw[zan]; simp[Nd.cs,zad,Function.comp_def,V.cl]
  simp only[zdt,List.map_cons,V.cl,hc,ih]
theorem zjb{α β:Type}(f:α→β):∀(l:List α) (i:Nat) (a:α),(l.set i a).map f=(l.map f).set i (f a):=fun l i a=>List.map_set
theorem Bk.upd_shut(h:Bk H b z m L)(L':List Nd):za8 (upd H b z m L'):=by
 intro n hn
 rw[zbf] at hn
 have h1:=h.shut n hn
 have hz:=h.lz
 have hm:=h.lm
 unfold upd
 rw[zjb,zjb,zjb,h1]
 have c1:Option.map (Blk.cl n) (some (zd0 L' z m))=some (zd0 L' z m):=by
  simp[zd0,Blk.cl,clL,V.cl,Tk.cl,show z<n from by omega,show m<n from by omega]
 have c2:Option.map (Blk.cl n) (some (Blk.zone L'.length))=some (.zone L'.length):=rfl
 have c3:Option.map (Blk.cl n) (some (Blk.map (ents L')))=some (.map (ents L')):=by
  simp only[Option.map_some,Blk.cl,ents,zmH]
 rw[c1,c2,c3]
theorem Bk.upd_bk(h:Bk H b z m L)(hok:∀ a∈L',a.ok)(hs:L'.length≤1000000):Bk (upd H b z m L') b z m L':=by
 have h1:=h.bz
 have h2:=h.bm
 have h3:=h.zm
 refine⟨?_,?_,?_,h.upd_shut L',hok,hs⟩
 ·unfold upd
  rw[List.getElem?_set_ne h2.symm,List.getElem?_set_ne h1.symm,List.getElem?_set_self h.lb]
 ·unfold upd
  rw[List.getElem?_set_ne h3.symm,List.getElem?_set_self (by simp[h.lz])]
 ·unfold upd
  rw[List.getElem?_set_self (by simp[h.lm])]
theorem Bk.app(h:Bk H b z m L){r:Heap}(hr:∀ n,r.map (Option.map (Blk.cl n))=r):Bk (H++r) b z m L :=
 ⟨by rw[List.getElem?_append_left h.lb]; exact h.hb,by rw[List.getElem?_append_left h.lz]; exact h.hz,by rw[List.getElem?_append_left h.lm]; exact h.hm,h.shut.app hr,h.ok,h.small⟩
theorem Bk.upd_app(h:Bk H b z m L)(r:Heap)(L':List Nd):upd (H++r) b z m L'=upd H b z m L'++r:=by
 unfold upd
 rw[List.set_append_left _ _ h.lb,List.set_append_left _ _ (by simp[h.lz]),List.set_append_left _ _ (by simp[h.lm])]
theorem Bk.upd_upd(h:Bk H b z m L)(L1 L2:List Nd):upd (upd H b z m L1) b z m L2=upd H b z m L2:=by
 have h1:=h.bz
 have h2:=h.bm
 have h3:=h.zm
 apply List.ext_getElem?
 intro i
 unfold upd
 simp only[List.getElem?_set,List.length_set]
 repeat' split
 all_goals first|rfl|omega
end
def insN(L:List Nd)(a:Nd):List Nd:=if a∈L then L else L++[a]
theorem znz{L:List Nd}{a:Nd}(h:a∉L):L.idxOf a=L.length:=List.idxOf_eq_length h
end Go.Ev
/- The smaller functions of a book. -/
namespace Go.Ev
open Go Go.RowKit
variable {G:Tbl}
variable {H:Heap} {b z m:Nat} {L:List Nd}
def QX(res:List ResV)(R:V→Heap→Prop)(x:Ex)(e1:Env)(H1:Heap):Prop:=(x=.nx∨x=.ret)∧∃ vs,zb2 e1 H1 res=some vs∧R (zct vs) H1
@[simp] theorem QX_nx (res:List ResV) (R:V→Heap→Prop) (e1:Env) (H1:Heap):QX res R .nx e1 H1=∃ vs,zb2 e1 H1 res=some vs∧R (zct vs) H1:=by simp[QX]
@[simp] theorem QX_ret (res:List ResV) (R:V→Heap→Prop) (e1:Env) (H1:Heap):QX res R .ret e1 H1=∃ vs,zb2 e1 H1 res=some vs∧R (zct vs) H1:=by simp[QX]
def SF(G:Tbl)(f:Nat)(args:List V)(H:Heap)(r:V)(H':Heap):Prop:=∃ r1 H1,Big G (.F f args H r1 H1)∧r1.cl H.length=r∧zac H.length H1=H'
theorem zbz{f nt:Nat}{body:SCode}{res:List ResV}{args:List V}{r:V}{H H':Heap}(hg:G f=some ⟨nt,body,res⟩)(hl:args.length≤nt)
  (h:W G body [] (mkE (idxE 0 args)) H (QX res fun r1 H1=>r1.cl H.length=r∧zac H.length H1=H')):SF G f args H r H':=by
 obtain⟨x,e1,H1,hb,hx,vs,hvs,hr,ht⟩:=h
 rw[←zi2] at hb
 exact⟨_,_,.fn hg hl hb hx hvs,hr,ht⟩
theorem zai{f:Nat}{args:List V}{r:V}{H H':Heap}{base:Nat}{d:Option Nat}{os:List SOper}{K:List Kt}{e:Env}{Q:Ex→Env→Heap→Prop}(h:SF G f args H r H')
  (hr:WO G base os K (e.put d r) H' Q):zn6 G f args base d os K e H Q:=by
 obtain⟨r1,H1,hb,hr1,ht⟩:=h
 refine zfY hb ?_
 rw[hr1,ht]
 exact hr
theorem zsR{f:Nat}{args:List V}{r:V}{H H':Heap}{base:Nat}{d:Option Nat}{os:List SOper}{K:List Kt}{e:Env}{Q:Ex→Env→Heap→Prop}(h:SF G f args H r H')(hel:zlU base args H H')
  (hr:WO G base os K (e.put d r) H' Q):zvi G f args base d os K e H Q:=by
 obtain⟨r1,H1,hb,hr1,ht⟩:=h
 exact⟨r1,H1,hb,by rw[ht]; exact hel,by rw[hr1,ht]; exact hr⟩
theorem Bk.back(h:Bk H b z m L)(L':List Nd)(r:Heap):zac H.length (upd H b z m L'++r)=upd H b z m L':=by
 have:=(h.upd_shut L').back r
 rwa[zbf] at this
@[simp] theorem zBb (L:List Nd):(nds L).length=L.length:=by simp[nds]
theorem zmI{x:Nat}{a:Nd}(h:L[x]?=some a):(nds L)[x]?=some a.cs:=by simp[nds,h]
theorem zus(L:List Nd)(a:Nd):nds L++[a.cs]=nds (L++[a]):=by simp[nds]
theorem zsS(h:∀ a∈L,a.ok):(∀ f∈nds L,f.length=60):=by
 intro f hf
 simp only[nds,List.mem_map] at hf
 obtain⟨a,ha,rfl⟩:=hf
 exact Nd.len (h a ha)
theorem Bk.hb'(h:Bk H b z m L):H[b]?=some (some (.cells [.vs (nds L) (.own z),.mp m])):=h.hb
theorem zxy[HasSym G](h:Bk H b z m L):Big G (.F 257 [.ptr b 0] H (.int .i64 L.length) H):=by
 refine F_of HasSym.h_sym_Book_Len (Nat.le_of_ble_eq_true rfl) ?_
 have hb:=h.hb'
 simp[hb]
def hasI(L:List Nd)(i:Int):Bool:=decide (0≤i∧i<(L.length:Int))
theorem zxz[HasSym G](i:Int)(h:Bk H b z m L):Big G (.F 258 [.ptr b 0,.int .i64 i] H (.bool (hasI L i)) H):=by
 refine F_of HasSym.h_sym_Book_has (Nat.le_of_ble_eq_true rfl) ?_
 have hs:=h.shut.self
 by_cases h0:0≤i
 ·simp[h0]
  refine zfY (zxy h) ?_
  simp[hs,hasI,h0]
 ·simp[h0,hasI]
theorem zut[HasSym G](x:Nat)(a:Nd)(h:Bk H b z m L)(hx:L[x]?=some a):Big G (.F 264 [.ptr b 0,.int .i64 x] H (.tup [.agg (zad .u32 a.f),.bool (decide (a.kind=0))]) (H++[some (.cells (zad .u32 a.f))])):=by
 refine F_of HasSym.h_sym_Book_asSum (Nat.le_of_ble_eq_true rfl) ?_
 have hlt:=h.lb
 have hb:=h.hb'
 have hb2:∀ r:Heap,(H++r)[b]?=some (some (.cells [.vs (nds L) (.own z),.mp m])):=fun r=>by rw[List.getElem?_append_left hlt]; exact hb
 have hg:=zmI hx
 have hao:=h.ok a (List.mem_of_getElem? hx)
 have hl:=Nd.len hao
 have t1:a.cs.take 1=[.int .i64 (a.kind:Int)]:=rfl
 have t35:(a.cs.drop 1).take 35=zad .u32 a.f:=by
  show(zad .u32 a.f++_).take 35=_
  rw[List.take_left' (by simp[hao.1])]
 have t35':a.cs.tail.take 35=zad .u32 a.f:=by rw[←List.drop_one]; exact t35
 have hd:(zad .u32 (zae 35)).drop 35=[]:=rfl
 have hne:b≠H.length:=by omega
 have hne':(H.length=b)=False:=eq_false (by omega)
 have hf:=hao.1
 have hk0:((a.kind:Int)==0)=decide (a.kind=0):=by rw[Bool.eq_iff_iff]; simp
 simp[hb2,hb,hg,hl,t1,t35,t35',hd,hne,hne',hf,zaj (k:=.u32) hf,hk0]
theorem zkF[HasSym G](a:Nd)(ha:a.ok)(h:Bk H b z m L)(hs:L.length<1000000):SF G 259 [.ptr b 0,.agg a.cs] H (.int .i64 (L.idxOf a:Nat)) (upd H b z m (insN L a)):=by
 have hlb:=h.lb
 have hlz:=h.lz
 have hlm:=h.lm
 have hb:=h.hb'
 have hbz:=h.bz
 have hbm:=h.bm
 have hzm:=h.zm
 have hl:=Nd.len ha
 have htk:a.cs.take 60=a.cs:=List.take_of_length_le (by omega)
 have hself:=zmG ha ha
 simp only[decide_true] at hself
 have hF:(H.length+1≤b)=False:=eq_false (by omega)
 have hFs:(H.length+1≤H.length)=False:=eq_false (by omega)
 have hF0:(H.length=b)=False:=eq_false (by omega)
 have hFm:(H.length=m)=False:=eq_false (by omega)
 have hFz:(H.length=z)=False:=eq_false (by omega)
 have hb2:∀ r:Heap,(H++r)[b]?=some (some (.cells [.vs (nds L) (.own z),.mp m])):=fun r=>by rw[List.getElem?_append_left hlb]; exact hb
 have hm2:∀ r:Heap,(H++r)[m]?=some (some (.map (ents L))):=fun r=>by rw[List.getElem?_append_left hlm]; exact h.hm
 have hz2:∀ r:Heap,(H++r)[z]?=some (some (.zone L.length)):=fun r=>by rw[List.getElem?_append_left hlz]; exact h.hz
 refine zbz HasSym.h_sym_Book_id (Nat.le_of_ble_eq_true rfl) ?_
 by_cases hin:a∈L
 ·have hmf:=zo6 ha 0 h.ok hin
  simp only[Nat.zero_add] at hmf
  have hbk:=h.shut.back
  have hu:upd H b z m (insN L a)=H:=by rw[insN,if_pos hin,h.upd_self]
  simp[-List.reduceReplicate,hb2,hm2,hl,htk,hself,ents,hmf,hF,hF0,hFm,hFz,hFs,hbk,hu]
 ·have hmf:=zny ha 0 h.ok hin
  have hset:∀(x:Option Blk) (r:Heap),(H++r).set m x=H.set m x++r:=fun x r=>List.set_append_left _ _ hlm
  obtain⟨K,hK⟩:∃ K,K=H.set m (some (.map (ents (L++[a])))):=⟨_,rfl⟩
  have hKl:K.length=H.length:=by rw[hK,List.length_set]
  have he:zdt 0 L++[(V.agg a.cs,V.int .i64 (L.length:Int))]=ents (L++[a]):=by rw[ents,znx,Nat.zero_add]
  have kb:∀ r:Heap,(K++r)[b]?=some (some (.cells [.vs (nds L) (.own z),.mp m])):=fun r=>by
   rw[List.getElem?_append_left (by omega),hK,List.getElem?_set_ne hbm.symm]; exact hb
  have kz:∀ r:Heap,(K++r)[z]?=some (some (.zone L.length)):=fun r=>by
   rw[List.getElem?_append_left (by omega),hK,List.getElem?_set_ne hzm.symm]; exact h.hz
  have kset:∀(x:Option Blk) (r:Heap),(K++r).set z x=K.set z x++r:=fun x r=>List.set_append_left _ _ (by omega)
  have kzb:∀(x:Option Blk) (r:Heap),(K.set z x++r)[b]?=some (some (.cells [.vs (nds L) (.own z),.mp m])):=fun x r=>by
   rw[List.getElem?_append_left (by simp; omega),List.getElem?_set_ne hbz.symm]; have:=kb []; simpa using this
  have kzset:∀(x y:Option Blk) (r:Heap),(K.set z x++r).set b y=(K.set z x).set b y++r:=fun x y r=>List.set_append_left _ _ (by simp; omega)
  have hlen:=znz hin
  have hsz:=zsS h.ok
  have hby:((L.length+1)*280≤140737488355328)=True:=eq_true (by omega)
  have hall:(∀ f∈nds L,f.length=60)=True:=eq_true hsz
  have hpure:a.cs.all V.pure=true:=by simp[Nd.cs,zad,V.pure]
  have hzl:Nd0.cs.length=60:=rfl
  have hsn:=zus L a
  have fin:(K.set z (some (.zone (L.length+1)))).set b (some (.cells [.vs (nds (L++[a])) (.own z),.mp m]))=upd H b z m (insN L a):=by
   rw[insN,if_neg hin,upd,hK,zd0,List.length_append]
   apply List.ext_getElem?
   intro i
   simp only[List.getElem?_set,List.length_set]
   repeat' split
   all_goals first|rfl|omega
  have hbk:=h.back (insN L a)
  have kh:∀ r:Heap,(K++r)[H.length]?=r[0]?:=fun r=>by rw[←hKl,List.getElem?_append_right (Nat.le_refl _),Nat.sub_self]
  simp[-List.reduceReplicate,hb2,hm2,hl,htk,hself,ents,hmf,hF,hF0,hFm,hFz,hFs]
  simp[-List.reduceReplicate,hset,he,←hK,kb,kz,hl,htk,hF,hF0,hFs,hby,hall,hpure,nz,hzl,hsz,kh,kset,kzb,kzset,hsn,fin,hbk,hlen,List.getElem?_append_left hlb]
end Go.Ev
/- Sums of multiples. -/
namespace Go.Ev
open Go Go.RowKit
variable {G:Tbl}
def mxA(o:Nat→Nat→Nat)(f g:List Nat)(i:Nat):List Nat:=List.zipWith o (f.take i) (g.take i)++f.drop i
section
variable {o:Nat→Nat→Nat} {f g:List Nat} {i n:Nat}
theorem zqx(hf:f.length=n)(hg:g.length=n):(mxA o f g i).length=n:=by simp[mxA,hf,hg]; omega
theorem zuu:mxA o f g 0=f:=by simp[mxA]
theorem zwe(hf:f.length=n)(hg:g.length=n):mxA o f g n=List.zipWith o f g:=by
 rw[mxA,List.take_of_length_le (by omega),List.take_of_length_le (by omega),List.drop_eq_nil_of_le (by omega),List.append_nil]
theorem zwf(hf:f.length=n)(hg:g.length=n)(h:i<n):(mxA o f g i)[i]?=some (f[i]'(by omega)):=by
 rw[mxA,List.getElem?_append_right (by simp; omega)]
 have e:i-(List.zipWith o (f.take i) (g.take i)).length=0:=by simp; omega
 rw[e,List.getElem?_drop]
 exact zal (by omega)
theorem zqy(hf:f.length=n)(hg:g.length=n)(h:i<n):(mxA o f g i).set i (o (f[i]'(by omega)) (g[i]'(by omega)))=mxA o f g (i+1):=by
 apply List.ext_getElem?
 intro j
 have hl:(mxA o f g i).length=n:=zqx hf hg
 rw[List.getElem?_set]
 have hz:∀ k,(List.zipWith o (f.take k) (g.take k)).length=min k n:=fun k=>by simp[hf,hg]
 by_cases hj:i=j
 ·subst hj
  simp only[if_true,hl,h]
  rw[mxA,List.getElem?_append_left (by rw[hz]; omega)]
  simp[List.getElem?_zipWith,List.getElem?_take,show i<f.length by omega,show i<g.length by omega]
 ·rw[if_neg hj,mxA,mxA]
  by_cases hlt:j<i
  ·rw[List.getElem?_append_left (by rw[hz]; omega),List.getElem?_append_left (by rw[hz]; omega)]
   simp[List.getElem?_zipWith,List.getElem?_take,hlt,show j<i+1 by omega]
  ·rw[List.getElem?_append_right (by rw[hz]; omega),List.getElem?_append_right (by rw[hz]; omega),hz,hz]
   simp only[List.getElem?_drop]
   congr 1
   omega
end
theorem zd1{l:List Nat}{i x:Nat}(k:IntKind)(h:l[i]?=some x):((zad k l).drop i).take 1=[.int k (x:Int)]:=by
 obtain⟨h1,rfl⟩:=List.getElem?_eq_some_iff.1 h
 exact zaU k l i h1
section
variable {α:Type} (H l:List α)
theorem ap0:(H++l)[H.length]?=l[0]?:=by rw[List.getElem?_append_right (Nat.le_refl _),Nat.sub_self]
theorem apk(k:Nat):(H++l)[H.length+k]?=l[k]?:=by rw[List.getElem?_append_right (by omega),Nat.add_sub_cancel_left]
theorem set0(x:α):(H++l).set H.length x=H++l.set 0 x:=by rw[List.set_append_right _ _ (Nat.le_refl _),Nat.sub_self]
theorem setk(k:Nat)(x:α):(H++l).set (H.length+k) x=H++l.set k x:=by rw[List.set_append_right _ _ (by omega),Nat.add_sub_cancel_left]
end
theorem zmJ[HasAffine G](fn:Nat)(cap:List V)(o:Nat→Nat→Nat)(f g:List Nat)(H:Heap)(hs:za8 H)(hf:f.length=35)(hg:g.length=35)(hcap:∀ n,H.length≤n→clL n cap=cap)
  (hc:∀(i:Nat) (h:i<35) (r:Heap),Big G (.F fn ([.int .u32 (f[i]'(by omega):Nat),.int .u32 (g[i]'(by omega):Nat)]++cap) (H++r) (.int .u32 (o (f[i]'(by omega)) (g[i]'(by omega)):Nat)) (H++r))) :
  Big G (.F 245 [.agg (zad .u32 f),.agg (zad .u32 g),.fn fn cap] H (.agg (zad .u32 (List.zipWith o f g))) (H++[some (.cells (zad .u32 (List.zipWith o f g))),some (.cells (zad .u32 g)),some (.cells (zad .u32 (List.zipWith o f g)))])):=by
 refine F_of HasAffine.h_affine_both (Nat.le_of_ble_eq_true rfl) ?_
 have hl0:∀ i,(mxA o f g i).length=35:=fun i=>zqx hf hg
 have hcl:∀ r,za8 (H++[some (.cells (zad .u32 r)),some (.cells (zad .u32 g)),some (.cells (zad .u32 (zae 35)))]):=fun r=>hs.app fun n=>by simp[Blk.cl]
 have hb:∀ r x,zac (H.length+3) (H++some (.cells (zad .u32 r))::some (.cells (zad .u32 g))::some (.cells (zad .u32 (zae 35)))::x)=H++[some (.cells (zad .u32 r)),some (.cells (zad .u32 g)),some (.cells (zad .u32 (zae 35)))]:=fun r x=>by
  have:=(hcl r).back x
  simpa using this
 have h0:=hc 0 (by omega)
 have g0:((zad .u32 f).drop 0).take 1=[.int .u32 (f[0]:Nat)]:=zaU .u32 f 0 (by omega)
 have g0':((zad .u32 g).drop 0).take 1=[.int .u32 (g[0]:Nat)]:=zaU .u32 g 0 (by omega)
 rw[List.drop_zero] at g0 g0'
 have htf:=zaj (k:=.u32) hf
 have htg:=zaj (k:=.u32) hg
 have e0:V.int .u32 (o f[0] g[0]:Nat)::(zad .u32 f).drop 1=zad .u32 (mxA o f g 1):=by
  have h1:=zbs .u32 (mxA o f g 0) 0 (o f[0] g[0]) (by rw[hl0]; omega)
  rw[zqy hf hg (by omega),zuu] at h1
  simpa using h1
 rw[List.drop_one] at e0
 obtain⟨BB,hBB⟩:∃ BB:Nat→Heap,∀ i,BB i=H++[some (.cells (zad .u32 (mxA o f g (i+1)))),some (.cells (zad .u32 g)),some (.cells (zad .u32 (zae 35)))]:=⟨_,fun _=>rfl⟩
 simp[hf,hg,htf,htg,g0,g0',hb]
 refine zaF (h0 _) (by simp) ?_
 simp[hb,hf,e0,zaa]
 refine W_up 34 (fun i=>[(2,.fn fn cap),(3,.ptr H.length 0),(4,.ptr (H.length+1) 0),(6,.ptr (H.length+2) 0),(15,.int .i64 i)]) BB (fun _=>True) ?_ ?_
 ·simp[zaa,hb,hBB,hcap]
 intro i hi _
 by_cases hlt:i<34
 ·have hfi:=zwf (o:=o) hf hg (show i+1<35 by omega)
  have hgi:g[i+1]?=some (g[i+1]'(by omega)):=zal (by omega)
  have q1:=zd1 .u32 hfi
  have q2:=zd1 .u32 hgi
  have hst:=zbs .u32 (mxA o f g (i+1)) (i+1) (o (f[i+1]'(by omega)) (g[i+1]'(by omega))) (by rw[hl0]; omega)
  rw[zqy hf hg (by omega)] at hst
  simp(disch:=omega)[ltT,ltF,leF,leFn,leTn,ap0,apk,set0,setk,hBB,hlt,hl0,hf,hg,show 1+i=i+1 from Nat.add_comm 1 i,q1,q2,-Int.natCast_add,hb]
  refine zaF (hc (i+1) (by omega) [some (.cells (zad .u32 (mxA o f g (i+1)))),some (.cells (zad .u32 g)),some (.cells (zad .u32 (zae 35)))]) (fun _=>by have:=hb (mxA o f g (i+1)) []; simpa using this) ?_
  simp(disch:=omega)[ltT,ltF,leF,leFn,leTn,ap0,apk,set0,setk,hBB,hlt,hl0,hf,hg,show 1+i=i+1 from Nat.add_comm 1 i,hst,-Int.natCast_add,hb,zag,zaa,hcap]
 ·have hi34:i=34:=by omega
  subst hi34
  have hml:=hl0 35
  have hm:=zwe (o:=o) hf hg
  have hzl:(List.zipWith o f g).length=35:=by simp[hf,hg]
  simp(disch:=omega)[ltT,ltF,leF,leFn,leTn,ap0,apk,set0,setk,hBB,hm,hzl,zaj (k:=.u32) hzl]
def fAdd(f g:List Nat):List Nat:=List.zipWith (fun a b=>(a+b)%4294967296) f g
def fSub(f g:List Nat):List Nat:=List.zipWith (fun a b=>(a+4294967296-b)%4294967296) f g
def fMul(f:List Nat)(k:Nat):List Nat:=f.map fun a=>a*k%4294967296
theorem zwg[HasAffine G](a b:Nat)(H:Heap):Big G (.F 246 [.int .u32 a,.int .u32 b] H (.int .u32 ((a+b)%4294967296:Nat)) H):=by
 refine F_of HasAffine.h_affine_Add_1 (Nat.le_of_ble_eq_true rfl) ?_
 simp
 simp[addI,zgn]
theorem zwh[HasAffine G](a b:Nat)(hb:b<4294967296)(H:Heap):Big G (.F 248 [.int .u32 a,.int .u32 b] H (.int .u32 ((a+4294967296-b)%4294967296:Nat)) H):=by
 refine F_of HasAffine.h_affine_Sub_1 (Nat.le_of_ble_eq_true rfl) ?_
 simp
 simp[subI,zgn]
 omega
theorem zwi[HasAffine G](a b k p:Nat)(H:Heap)(hp:H[p]?=some (some (.cells [.int .u32 k]))):Big G (.F 250 [.int .u32 a,.int .u32 b,.ptr p 0] H (.int .u32 (a*k%4294967296:Nat)) H):=by
 refine F_of HasAffine.h_affine_Mul_1 (Nat.le_of_ble_eq_true rfl) ?_
 simp[hp]
 simp[mulI,zgn]
theorem zwj[HasAffine G](f g:List Nat)(hf:f.length=35)(hg:g.length=35):FP G 247 [.agg (zad .u32 f),.agg (zad .u32 g)] (.agg (zad .u32 (fAdd f g))):=by
 refine zak HasAffine.h_affine_Add (Nat.le_of_ble_eq_true rfl) ?_
 have htf:=zaj (k:=.u32) hf
 have htg:=zaj (k:=.u32) hg
 have hl:(fAdd f g).length=35:=by simp[fAdd,hf,hg]
 have htl:=zaj (k:=.u32) hl
 have hs:za8 [some (.cells (zad .u32 f)),some (.cells (zad .u32 g)),some (.cells (zad .u32 (zae 35)))]:=fun n _=>by simp[Blk.cl]
 have hb:=hs.back
 simp at hb
 simp[hf,hg,htf,htg]
 refine zfY (zmJ 246 [] (fun a b=>(a+b)%4294967296) f g _ hs hf hg (fun _ _=>rfl) (fun i h r=>zwg _ _ _)) ?_
 have e:List.zipWith (fun a b=>(a+b)%4294967296) f g=fAdd f g:=rfl
 simp[e,hb,hl,htl]
theorem zmK[HasAffine G](f g:List Nat)(hf:f.length=35)(hg:g.length=35)(hgw:∀ x∈g,x<4294967296):FP G 249 [.agg (zad .u32 f),.agg (zad .u32 g)] (.agg (zad .u32 (fSub f g))):=by
 refine zak HasAffine.h_affine_Sub (Nat.le_of_ble_eq_true rfl) ?_
 have htf:=zaj (k:=.u32) hf
 have htg:=zaj (k:=.u32) hg
 have hl:(fSub f g).length=35:=by simp[fSub,hf,hg]
 have htl:=zaj (k:=.u32) hl
 have hs:za8 [some (.cells (zad .u32 f)),some (.cells (zad .u32 g)),some (.cells (zad .u32 (zae 35)))]:=fun n _=>by simp[Blk.cl]
 have hb:=hs.back
 simp at hb
 simp[hf,hg,htf,htg]
 refine zfY (zmJ 248 [] (fun a b=>(a+4294967296-b)%4294967296) f g _ hs hf hg (fun _ _=>rfl) (fun i h r=>zwh _ _ (hgw _ (List.getElem_mem _)) _)) ?_
 have e:List.zipWith (fun a b=>(a+4294967296-b)%4294967296) f g=fSub f g:=rfl
 simp[e,hb,hl,htl]
theorem zkG[HasAffine G](f:List Nat)(k:Nat)(hf:f.length=35):FP G 251 [.agg (zad .u32 f),.int .u32 k] (.agg (zad .u32 (fMul f k))):=by
 refine zak HasAffine.h_affine_Mul (Nat.le_of_ble_eq_true rfl) ?_
 have htf:=zaj (k:=.u32) hf
 have hl:(fMul f k).length=35:=by simp[fMul,hf]
 have htl:=zaj (k:=.u32) hl
 have hs:za8 [some (.cells (zad .u32 f)),some (.cells [.int .u32 k]),some (.cells (zad .u32 (zae 35)))]:=fun n _=>by simp[Blk.cl]
 have hb:=hs.back
 simp at hb
 simp[hf,htf]
 refine zfY (zmJ 250 [.ptr 1 0] (fun a _=>a*k%4294967296) f f _ hs hf hf (fun n hn=>by simp at hn; simp[clL,V.cl,show 1<n by omega]) (fun i h r=>zwi _ _ k 1 _ (by simp))) ?_
 have e:f.map (fun a=>a*k%4294967296)=fMul f k:=rfl
 simp[e,hb,hf,hl,htl]
def zaZ(f:List Nat):Option Nat:=if f.drop 1=zae 34 then f.head? else none
theorem zhO[HasAffine G](f:List Nat)(hf:f.length=35):FP G 253 [.agg (zad .u32 f)] (.tup [.int .u32 ((zaZ f).getD 0:Nat),.bool (zaZ f).isSome]):=by
 refine zak HasAffine.h_affine_Constant (Nat.le_of_ble_eq_true rfl) ?_
 obtain⟨c,t,rfl⟩:∃ c t,f=c::t:=by cases f with|nil=>simp at hf|cons c t=>exact⟨c,t,rfl⟩
 have ht:t.length=34:=by simpa using hf
 have hc:zad .u32 (c::t)=.int .u32 (c:Int)::zad .u32 t:=rfl
 have he:=zhy .u32 (n:=34) (a:=t) (b:=zae 34) ht (by simp)
 have htt:=zaj (k:=.u32) ht
 by_cases e:t=zae 34
 ·have hfc:zaZ (c::t)=some c:=by simp[zaZ,e]
  rw[decide_eq_true e] at he
  simp[-List.reduceReplicate,hc,ht,htt,he,hfc]
 ·have hfc:zaZ (c::t)=none:=by simp[zaZ,e]
  rw[decide_eq_false e] at he
  simp[-List.reduceReplicate,hc,ht,htt,he,hfc]
def fSum(f v:List Nat)(i:Nat):Nat:=((List.zipWith (·*·) (f.drop 1) v).take i).sum
def zaI(f v:List Nat):Nat:=(f.headD 0+fSum f v 34)%4294967296
theorem zuv[HasAffine G](f v:List Nat)(hf:f.length=35)(hv:v.length=34)(hfw:∀ x∈f,x<4294967296):FP G 252 [.agg (zad .u32 f),.agg (zad .u32 v)] (.int .u32 (zaI f v:Nat)):=by
 refine zak HasAffine.h_affine_Eval (Nat.le_of_ble_eq_true rfl) ?_
 obtain⟨c,t,rfl⟩:∃ c t,f=c::t:=by cases f with|nil=>simp at hf|cons c t=>exact⟨c,t,rfl⟩
 have ht:t.length=34:=by simpa using hf
 have hc:zad .u32 (c::t)=.int .u32 (c:Int)::zad .u32 t:=rfl
 have htt:=zaj (k:=.u32) ht
 have htv:=zaj (k:=.u32) hv
 have hcw:c<4294967296:=hfw c (by simp)
 simp[hc,ht,htt,hv,htv]
 obtain⟨S,hS⟩:∃ S:Nat→Nat,∀ i,S i=(c+fSum (c::t) v i)%4294967296:=⟨_,fun _=>rfl⟩
 have S0:S 0=c:=by rw[hS]; simp[fSum]; omega
 have S34:S 34=zaI (c::t) v:=by rw[hS]; rfl
 have Ss:∀(i:Nat) (h:i<34),(S i+(t[i]'(by omega))*(v[i]'(by omega)))%4294967296=S (i+1):=fun i h=>by
  rw[hS,hS,fSum,fSum,List.take_add_one,List.getElem?_eq_getElem (by simp; omega)]
  simp
  omega
 refine W_up 34 (fun i=>[(3,.ptr 1 0),(5,.int .u32 (S i:Nat)),(11,.agg (zad .u32 t)),(12,.int .i64 i)]) (fun _=>[some (.cells (.int .u32 (c:Int)::zad .u32 t)),some (.cells (zad .u32 v))]) (fun _=>True) ?_ ?_
 ·simp[zaa,S0,zac,clL,V.cl]
 intro i hi _
 by_cases hlt:i<34
 ·have q1:=zd1 .u32 (zal (show i<t.length by omega))
  have q2:=zd1 .u32 (zal (show i<v.length by omega))
  have m:addI .u32 (S i:Int) (mulI .u32 (t[i]:Nat) (v[i]:Nat))=((S (i+1):Nat):Int):=by
   rw[←Ss i hlt]; simp[addI,mulI,zgn]
  simp(disch:=omega)[ltT,ltF,leF,leFn,leTn,hlt,ht,hv,q1,q2,m,-Int.natCast_add,zag,zaa,zac,clL,V.cl]
 ·have hi34:i=34:=by omega
  subst hi34
  simp[S34]
def fOne(f:List Nat):Option Nat:=(List.range 34).find? fun i=>decide (f=varL i)
theorem zwk[HasAffine G](f:List Nat)(hf:f.length=35):FP G 254 [.agg (zad .u32 f)] (.tup [.int .i64 ((fOne f).getD 0:Nat),.bool (fOne f).isSome]):=by
 refine zak HasAffine.h_affine_Single (Nat.le_of_ble_eq_true rfl) ?_
 obtain⟨c,t,rfl⟩:∃ c t,f=c::t:=by cases f with|nil=>simp at hf|cons c t=>exact⟨c,t,rfl⟩
 have ht:t.length=34:=by simpa using hf
 have hc:zad .u32 (c::t)=.int .u32 (c:Int)::zad .u32 t:=rfl
 have htt:=zaj (k:=.u32) ht
 have htf:=zaj (k:=.u32) hf
 rw[hc] at htf
 have hk:(List.replicate 35 Kd.int)=Kd.int::List.replicate 34 .int:=rfl
 simp[-List.reduceReplicate,hc,ht,htt]
 refine W_up 34 (fun i=>[(1,.ptr 0 0),(9,.agg (zad .u32 t)),(10,.int .i64 i)]) (fun _=>[some (.cells (.int .u32 (c:Int)::zad .u32 t))]) (fun i=>∀ j,j<i→c::t≠varL j) ?_ ?_
 ·simp[zaa,zac,clL,V.cl]
 intro i hi hp
 by_cases hlt:i<34
 ·have q1:=zd1 .u32 (zal (show i<t.length by omega))
  have hd:(zad .u32 (zae 35)).drop 35=[]:=rfl
  have hvl:(varL i).length=35:=by simp[varL]
  have htv:=zaj (k:=.u32) hvl
  have he:=zhy .u32 (n:=35) (a:=varL i) (b:=c::t) hvl hf
  rw[hc] at he
  have g1:c::t=varL i→t[i]=1:=fun e=>by
   have h1:(c::t)[i+1]?=some 1:=by rw[e,varL,List.getElem?_set_self (by simp; omega)]
   rw[List.getElem?_cons_succ,zal (by omega)] at h1
   exact Option.some.inj h1
  simp(disch:=omega)[-List.reduceReplicate,ltT,ltF,leF,leFn,leTn,hlt,ht,q1]
  refine zab (zj4 i hlt) ?_
  by_cases h1:t[i]=1
  ·by_cases e:varL i=c::t
   ·have hone:fOne (c::t)=some i:=by
     rw[fOne,List.find?_range_eq_some]
     exact⟨by simpa using e.symm,List.mem_range.2 hlt,fun j hj=>by simpa using hp j hj⟩
    rw[decide_eq_true e] at he
    simp(disch:=omega)[-List.reduceReplicate,ltT,ltF,leF,leFn,leTn,hlt,ht,hvl,htv,htf,hd,h1,he,hone]
   ·rw[decide_eq_false e] at he
    have hp':∀ j,j<i+1→c::t≠varL j:=fun j hj=>by
     by_cases e':j=i
     ·subst e'; exact fun h=>e h.symm
     ·exact hp j (by omega)
    simp(disch:=omega)[-List.reduceReplicate,ltT,ltF,leF,leFn,leTn,hlt,ht,hvl,htv,htf,hd,h1,he,-Int.natCast_add,zag,zaa,zac,clL,V.cl]
    exact hp'
  ·have hp':∀ j,j<i+1→c::t≠varL j:=fun j hj=>by
    by_cases e':j=i
    ·subst e'; exact fun h=>h1 (g1 h)
    ·exact hp j (by omega)
   have h1':((t[i]:Int)==1)=false:=by rw[beq_eq_false_iff_ne]; omega
   simp(disch:=omega)[-List.reduceReplicate,ltT,ltF,leF,leFn,leTn,hlt,ht,hvl,htv,htf,hd,h1,h1',-Int.natCast_add,zag,zaa,zac,clL,V.cl]
   exact hp'
 ·have hi34:i=34:=by omega
  subst hi34
  have hnone:fOne (c::t)=none:=by
   rw[fOne,List.find?_eq_none]
   intro j hj
   simpa using hp j (List.mem_range.1 hj)
  simp[hnone]
end Go.Ev
/- What the functions of bits compute: plain, Do, Eval, Apart. -/
namespace Go.Ev
open Go Go.RowKit
variable {G:Tbl}
def preT(tab:List Nat)(j n:Nat):List Nat:=((List.range n).filter fun n=>!n.testBit j).map fun n=>tab.getD n 0
theorem zjc(tab:List Nat)(j n:Nat):(preT tab j n).length≤n:=by
 have:=List.length_filter_le (fun n=>!n.testBit j) (List.range n)
 simp[preT] at this ⊢; exact this
theorem zjd{tab:List Nat}{j n:Nat}(h:n.testBit j=false):preT tab j (n+1)=preT tab j n++[tab.getD n 0]:=by simp[preT,List.range_succ,List.filter_append,h]
theorem zkH{tab:List Nat}{j n:Nat}(h:n.testBit j=true):preT tab j (n+1)=preT tab j n:=by simp[preT,List.range_succ,List.filter_append,h]
theorem zuw(hG:HasBits G)(vs:List Int)(tab:List Nat)(hl:tab.length=2^vs.length)(h4:vs.length≤4)(hn:vs.Nodup) :
  ∃ vs' tab',FP G 106 [FV vs tab] (FV vs' tab')∧vs'.Sublist vs∧tab'.length=2^vs'.length∧(∀ p,sem vs' tab' p=sem vs tab p)∧∀ v∈vs',dep (sem vs' tab') v:=by
 suffices h:∃ r,FP G 106 [FV vs tab] r∧∃ vs' tab',r=FV vs' tab'∧vs'.Sublist vs∧tab'.length=2^vs'.length∧(∀ p,sem vs' tab' p=sem vs tab p)∧∀ v∈vs',dep (sem vs' tab') v by
  obtain⟨r,hr,vs',tab',rfl,rest⟩:=h
  exact⟨vs',tab',hr,rest⟩
 refine zj1 hG.h_bits_plain (Nat.le_of_ble_eq_true rfl) ?_
 simp[FV]
 refine zfZ (fun s:List Int×Tk×List Nat×Nat=>s.1.length*100+(50-s.2.2.2))
  (fun s=>[(1,.ptr 0 0),(2,.ptr 1 0),(3,.int .i64 s.2.2.2)])
  (fun s=>[some (.cells [.vs (ints .i64 s.1) s.2.1,.vs (nats .u32 s.2.2.1) .no]),some (.cells [.vs [] .full,.vs [] .full])])
  (fun s=>s.1.Sublist vs∧(s.2.1=.no∨s.2.1=.full)∧s.2.2.1.length=2^s.1.length∧(∀ p,sem s.1 s.2.2.1 p=sem vs tab p)∧s.2.2.2≤s.1.length∧∀ m,m<s.2.2.2→cnt s.2.2.1 m=true)
  (vs,.no,tab,0) ?_ ?_
 ·simp[zaa,zac,hl]
 rintro⟨us,tk,tb,j⟩ ⟨hsub,htk,htl,hsem,hj,hcnt⟩
 simp only at hsub htk htl hsem hj hcnt
 have hul:=hsub.length_le
 have hnd:us.Nodup:=hn.sublist hsub
 have h2:tb.length≤16:=by rw[htl,show 16=2^4 from rfl]; exact Nat.pow_le_pow_right (by decide) (by omega)
 by_cases hlt:j<us.length
 ·simp(disch:=omega)[ltT]
  have hfl:V.nf (V.cl 0 (.agg [.vs (ints .i64 us) tk,.vs (nats .u32 tb) .no]))=FV us tb:=by rcases htk with rfl|rfl<;>simp[FV]
  refine zab (zj3 hG us tb j (by omega) (by omega) (zo4 (by omega) htl hlt)) ?_
  cases hc:cnt tb j
  case true =>
   simp(disch:=omega)[zag,-Int.natCast_add]
   refine⟨(us,tk,tb,j+1),?_⟩
   have hall:∀ m,m<j+1→cnt tb m=true:=fun m hm=>by
    by_cases e:m=j
    ·subst e; exact hc
    ·exact hcnt m (by omega)
   rcases htk with rfl|rfl<;>(simp[zaa,zac,hsub,htl,hsem,-Int.natCast_add]; exact⟨by omega,by omega,hall⟩)
  case false =>
   have htc:∀ n,Tk.cl n tk=tk:=fun n=>by rcases htk with rfl|rfl<;>rfl
   have hune:us≠[]:=fun e=>by simp[e] at hlt
   have hfull:(us.drop (j+1)).take (us.length-(j+1))=us.drop (j+1):=by rw[List.take_of_length_le]; simp
   have her:us.eraseIdx j=us.take j++us.drop (j+1):=List.eraseIdx_eq_take_drop_succ us j
   obtain⟨k,hk⟩:∃ k,us.length=k+1:=⟨us.length-1,by omega⟩
   have hle:(us.take j++us.drop (j+1)).length=k:=by rw[←her,List.length_eraseIdx_of_lt hlt]; omega
   have remL:(remT tb j).length=2^k:=zup (by rw[htl,hk]) (by omega)
   have hsem':∀ p,sem (us.take j++us.drop (j+1)) (remT tb j) p=sem vs tab p:=fun p=>by rw[←her,zwd hnd htl hlt hc,hsem]
   have hsubE:(us.take j++us.drop (j+1)).Sublist vs:=by rw[←her]; exact(List.eraseIdx_sublist us j).trans hsub
   have hk':min j us.length+(us.length-(j+1))=k:=by omega
   have preT_all:preT tb j tb.length=remT tb j:=rfl
   by_cases hz:j=0
   ·have htake:us.take j=[]:=by rw[hz]; rfl
    by_cases hla:us.length=j+1
    ·have hdrop:us.drop (j+1)=[]:=List.drop_eq_nil_of_le (by omega)
     simp(disch:=omega)[zbC,leT,zn8,leTn,zhM,zhL,zgb,zgc,eqTn,eqFn,hfull,htake,hdrop,-Int.natCast_add]
     refine W_up tb.length (fun n=>[(1,.ptr 0 0),(2,.ptr 1 0),(3,.int .i64 j),(4,.ptr 2 0),(32,.int .i64 tb.length),(33,.int .i64 n)])
      (fun n=>[some (.cells [.vs (ints .i64 us) tk,.vs (nats .u32 tb) .no]),some (.cells [.vs [] .full,.vs [] .full]),some (.cells [.vs (ints .i64 (us.take j++us.drop (j+1))) .full,.vs (nats .u32 (preT tb j n)) (.own 5)]),none,none,some (.zone (preT tb j n).length)])
      (fun _=>True) ?_ ?_
     ·simp[zaa,zac,preT,htc,htake,hdrop]
     intro n hn _
     by_cases hnl:n<tb.length
     ·have hpl:=zjc tb j n
      have hb:n/2^j<9223372036854775808:=Nat.lt_of_le_of_lt (Nat.div_le_self _ _) (by omega)
      cases hbit:n.testBit j
      ·have hb0:n/2^j%2=0:=by rw[zb3,hbit]; rfl
       have hg:tb.getD n 0=tb[n]:=by simp[List.getD_eq_getElem?_getD,hnl]
       simp(disch:=omega)[ltT,ltF,zej,and1 hb,hb0,leTn,zal,zag,zaa,zac,hnl,zjd hbit,hg,htc,-Int.natCast_add,-Int.natCast_ediv,-Int.natCast_emod]
      ·have hb1:n/2^j%2=1:=by rw[zb3,hbit]; rfl
       simp(disch:=omega)[ltT,ltF,zej,and1 hb,hb1,zal,zag,zaa,zac,hnl,zkH hbit,htc,-Int.natCast_add,-Int.natCast_ediv,-Int.natCast_emod]
     ·have hne:n=tb.length:=by omega
      subst hne
      simp(disch:=omega)[ltF,zav]
      refine⟨(us.eraseIdx j,.full,remT tb j,0),?_⟩
      simp[zaa,zac,her,preT_all,remL,hsem',hsubE,htc,hk']
      omega
    ·have hdrop:us.drop (j+1)≠[]:=fun e=>by have:=List.drop_eq_nil_iff.1 e; omega
     simp(disch:=omega)[zbC,leT,zn8,leTn,zhM,zhL,zgb,zgc,eqTn,eqFn,hfull,htake,hdrop,-Int.natCast_add]
     refine W_up tb.length (fun n=>[(1,.ptr 0 0),(2,.ptr 1 0),(3,.int .i64 j),(4,.ptr 2 0),(32,.int .i64 tb.length),(33,.int .i64 n)])
      (fun n=>[some (.cells [.vs (ints .i64 us) tk,.vs (nats .u32 tb) .no]),some (.cells [.vs [] .full,.vs [] .full]),some (.cells [.vs (ints .i64 (us.take j++us.drop (j+1))) (.own 4),.vs (nats .u32 (preT tb j n)) (.own 5)]),none,some (.zone (us.length-(j+1))),some (.zone (preT tb j n).length)])
      (fun _=>True) ?_ ?_
     ·simp[zaa,zac,preT,htc,htake,hdrop]
     intro n hn _
     by_cases hnl:n<tb.length
     ·have hpl:=zjc tb j n
      have hb:n/2^j<9223372036854775808:=Nat.lt_of_le_of_lt (Nat.div_le_self _ _) (by omega)
      cases hbit:n.testBit j
      ·have hb0:n/2^j%2=0:=by rw[zb3,hbit]; rfl
       have hg:tb.getD n 0=tb[n]:=by simp[List.getD_eq_getElem?_getD,hnl]
       simp(disch:=omega)[ltT,ltF,zej,and1 hb,hb0,leTn,zal,zag,zaa,zac,hnl,zjd hbit,hg,htc,-Int.natCast_add,-Int.natCast_ediv,-Int.natCast_emod]
      ·have hb1:n/2^j%2=1:=by rw[zb3,hbit]; rfl
       simp(disch:=omega)[ltT,ltF,zej,and1 hb,hb1,zal,zag,zaa,zac,hnl,zkH hbit,htc,-Int.natCast_add,-Int.natCast_ediv,-Int.natCast_emod]
     ·have hne:n=tb.length:=by omega
      subst hne
      simp(disch:=omega)[ltF,zav]
      refine⟨(us.eraseIdx j,.no,remT tb j,0),?_⟩
      simp[zaa,zac,her,preT_all,remL,hsem',hsubE,htc,hk']
      omega
   ·have htake:us.take j≠[]:=fun e=>by rcases List.take_eq_nil_iff.1 e with h|h; exact hz h; exact hune h
    by_cases hla:us.length=j+1
    ·have hdrop:us.drop (j+1)=[]:=List.drop_eq_nil_of_le (by omega)
     simp(disch:=omega)[zbC,leT,zn8,leTn,zhM,zhL,zgb,zgc,eqTn,eqFn,hfull,htake,hdrop,-Int.natCast_add]
     refine W_up tb.length (fun n=>[(1,.ptr 0 0),(2,.ptr 1 0),(3,.int .i64 j),(4,.ptr 2 0),(32,.int .i64 tb.length),(33,.int .i64 n)])
      (fun n=>[some (.cells [.vs (ints .i64 us) tk,.vs (nats .u32 tb) .no]),some (.cells [.vs [] .full,.vs [] .full]),some (.cells [.vs (ints .i64 (us.take j++us.drop (j+1))) (.own 3),.vs (nats .u32 (preT tb j n)) (.own 5)]),some (.zone j),none,some (.zone (preT tb j n).length)])
      (fun _=>True) ?_ ?_
     ·simp[zaa,zac,preT,htc,htake,hdrop]
     intro n hn _
     by_cases hnl:n<tb.length
     ·have hpl:=zjc tb j n
      have hb:n/2^j<9223372036854775808:=Nat.lt_of_le_of_lt (Nat.div_le_self _ _) (by omega)
      cases hbit:n.testBit j
      ·have hb0:n/2^j%2=0:=by rw[zb3,hbit]; rfl
       have hg:tb.getD n 0=tb[n]:=by simp[List.getD_eq_getElem?_getD,hnl]
       simp(disch:=omega)[ltT,ltF,zej,and1 hb,hb0,leTn,zal,zag,zaa,zac,hnl,zjd hbit,hg,htc,-Int.natCast_add,-Int.natCast_ediv,-Int.natCast_emod]
      ·have hb1:n/2^j%2=1:=by rw[zb3,hbit]; rfl
       simp(disch:=omega)[ltT,ltF,zej,and1 hb,hb1,zal,zag,zaa,zac,hnl,zkH hbit,htc,-Int.natCast_add,-Int.natCast_ediv,-Int.natCast_emod]
     ·have hne:n=tb.length:=by omega
      subst hne
      simp(disch:=omega)[ltF,zav]
      refine⟨(us.eraseIdx j,.no,remT tb j,0),?_⟩
      simp[zaa,zac,her,preT_all,remL,hsem',hsubE,htc,hk']
      omega
    ·have hdrop:us.drop (j+1)≠[]:=fun e=>by have:=List.drop_eq_nil_iff.1 e; omega
     simp(disch:=omega)[zbC,leT,zn8,leTn,zhM,zhL,zgb,zgc,eqTn,eqFn,hfull,htake,hdrop,-Int.natCast_add]
     refine W_up tb.length (fun n=>[(1,.ptr 0 0),(2,.ptr 1 0),(3,.int .i64 j),(4,.ptr 2 0),(32,.int .i64 tb.length),(33,.int .i64 n)])
      (fun n=>[some (.cells [.vs (ints .i64 us) tk,.vs (nats .u32 tb) .no]),some (.cells [.vs [] .full,.vs [] .full]),some (.cells [.vs (ints .i64 (us.take j++us.drop (j+1))) (.own 3),.vs (nats .u32 (preT tb j n)) (.own 5)]),some (.zone (j+(us.length-(j+1)))),none,some (.zone (preT tb j n).length)])
      (fun _=>True) ?_ ?_
     ·simp[zaa,zac,preT,htc,htake,hdrop]
     intro n hn _
     by_cases hnl:n<tb.length
     ·have hpl:=zjc tb j n
      have hb:n/2^j<9223372036854775808:=Nat.lt_of_le_of_lt (Nat.div_le_self _ _) (by omega)
      cases hbit:n.testBit j
      ·have hb0:n/2^j%2=0:=by rw[zb3,hbit]; rfl
       have hg:tb.getD n 0=tb[n]:=by simp[List.getD_eq_getElem?_getD,hnl]
       simp(disch:=omega)[ltT,ltF,zej,and1 hb,hb0,leTn,zal,zag,zaa,zac,hnl,zjd hbit,hg,htc,-Int.natCast_add,-Int.natCast_ediv,-Int.natCast_emod]
      ·have hb1:n/2^j%2=1:=by rw[zb3,hbit]; rfl
       simp(disch:=omega)[ltT,ltF,zej,and1 hb,hb1,zal,zag,zaa,zac,hnl,zkH hbit,htc,-Int.natCast_add,-Int.natCast_ediv,-Int.natCast_emod]
     ·have hne:n=tb.length:=by omega
      subst hne
      simp(disch:=omega)[ltF,zav]
      refine⟨(us.eraseIdx j,.no,remT tb j,0),?_⟩
      simp[zaa,zac,her,preT_all,remL,hsem',hsubE,htc,hk']
      omega
 ·have hju:j=us.length:=by omega
  subst hju
  simp(disch:=omega)[ltF]
  refine⟨us,tb,?_⟩
  have hd:∀ v∈us,dep (sem us tb) v:=fun v hv=>by
   obtain⟨i,hi,rfl⟩:=List.mem_iff_getElem.1 hv
   exact(zkD hnd htl (List.getElem?_eq_getElem hi)).1 (hcnt i hi)
  rcases htk with rfl|rfl<;>simp[FV,hsub,htl,hsem]<;>exact hd
end Go.Ev
