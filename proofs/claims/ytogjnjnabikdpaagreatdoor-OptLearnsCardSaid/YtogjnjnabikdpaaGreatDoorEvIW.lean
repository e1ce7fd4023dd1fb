/- One operation, as checked; calls by contracts. -/
import Derived.Laws.BytesString
import Derived.RangeFuncLeaves
import Derived.RangeFuncIn
import Derived.RangeFuncRecord
import Derived.OrdersIn
import Derived.TacticsIn
import Derived.Test.YtogjnjnabikdpaaGreatDoorEvFW
set_option linter.unusedSimpArgs false
set_option linter.unusedVariables false
namespace Go.Ev
open Go Go.RowKit
variable {P:Program} {M M':Mm} {H H1:Heap} {w w':World}
def zfh(P:Program)(t:TypeId)(z:List V):Bool :=
 match P.info? t with
 | some i=>match i.zero with
  | some zv=>zch zv.cells.toList z
  | none=>false
 | none=>false
theorem zdn{t:TypeId}{z:List V}(h:zfh P t z=true):∃ i zv,P.info? t=some i∧i.zero=some zv∧zch zv.cells.toList z=true:=by
 unfold zfh at h
 split at h
 ·rename_i i hi
  split at h
  ·rename_i zv hz; exact⟨i,zv,hi,hz,h⟩
  ·cases h
 ·cases h
def zcJ(P:Program)(t:TypeId)(sz:Nat):Bool:=match P.info? t with|some i=>i.size==sz|none=>false
theorem zbt{t:TypeId}{sz:Nat}(h:zcJ P t sz=true):∃ i,P.info? t=some i∧i.size=sz:=by
 unfold zcJ at h
 split at h
 ·rename_i i hi; exact⟨i,hi,by simpa using h⟩
 ·cases h
def chk1(P:Program)(fm:Fm)(o:Op)(s:SOp):Bool :=
 match s with
 | .mv sx=>match o with
  | .move x=>chkX fm x sx
  | .assign x=>chkX fm x sx
  | _=>false
 | .pick sc sa sb=>match o with
  | .pick c a b=>chkX fm c sc&&chkX fm a sa&&chkX fm b sb
  | _=>false
 | .box _ sx=>match o with
  | .box _ x=>chkX fm x sx
  | _=>false
 | .alloc _ z=>match o with
  | .alloc t=>zfh P t z
  | _=>false
 | .build z qs=>match o with
  | .build t ps=>zfh P t z&&zq8 P t&&zbz fm (zfe P t) ps.toList qs
  | _=>false
 | .bslice k z qs=>match o with
  | .buildSlice t k' ps=>match elemOf? P t with
   | some el=>k==k'&&zfh P el z&&zcJ P el z.length&&decide (0<z.length)&&decide (k*z.length≤16777216) &&
     zbz fm (fun j=>some (j*z.length,z.length)) ps.toList (qs.map fun q=>(q.1*z.length,z.length,q.2))
   | none=>false
  | _=>false
 | .load sz ag _ sx=>match o with
  | .load t x=>chkX fm x sx&&tyOk P t sz ag
  | _=>false
 | .store sz sx sy=>match o with
  | .store t x y=>chkX fm x sx&&chkX fm y sy&&zcJ P t sz
  | _=>false
 | .faddr off sx=>match o with
  | .fieldAddr t x f=>match zfd P t f off with
   | some ft=>chkX fm x sx&&(match P.info? ft with|some i=>i.size !=0|none=>false)
   | none=>false
  | _=>false
 | .fld off sz ag sx=>match o with
  | .field t x f=>match zfd P t f off with
   | some ft=>chkX fm x sx&&tyOk P ft sz ag
   | none=>false
  | _=>false
 | .iaddr sz sx sy=>match o with
  | .indexAddr t x y=>match elemOf? P t with
   | some el=>chkX fm x sx&&chkX fm y sy&&zcJ P el sz
   | none=>false
  | _=>false
 | .iaddrA len sz sx sy=>match o with
  | .indexAddr t x y=>match arrOf? P t with
   | some (k,el)=>k==len&&chkX fm x sx&&chkX fm y sy&&zcJ P el sz
   | none=>false
  | _=>false
 | .idx len sz ag sx sy=>match o with
  | .index t x y=>match arrOf? P t with
   | some (k,el)=>k==len&&chkX fm x sx&&chkX fm y sy&&tyOk P el sz ag
   | none=>false
  | _=>false
 | .bin op sx sy=>match o with
  | .binOp op' _ x y _=>op==op'&&chkX fm x sx&&chkX fm y sy
  | _=>false
 | .beq neg sx sy=>match o with
  | .binOp op' xt x y _=>op'==(if neg then .neq else .eql)&&zlB P xt&&chkX fm x sx&&chkX fm y sy
  | _=>false
 | .un op sx=>match o with
  | .unOp op' _ x=>op==op'&&chkX fm x sx
  | _=>false
 | .conv k sx=>match o with
  | .convert st dt x=>(P.underlying st).isSome&&zlA P dt k&&chkX fm x sx
  | _=>false
 | .mkfn f cap=>match o with
  | .makeFunc (.func f') first cap'=>f'==fm f&&first.isEmpty&&zbw fm cap'.toList cap
  | _=>false
 | .ext i sx=>match o with
  | .extract x i'=>i==i'&&chkX fm x sx
  | _=>false
 | .len st sx=>match o with
  | .call { callee:=.builtin .len,args,argTypes }=>match args.toList,argTypes.toList with
   | [x],[t]=>chkX fm x sx&&(if st then zgu P t else(elemOf? P t).isSome)
   | _,_=>false
  | _=>false
 | .app _ sz bytes sx sy=>match o with
  | .call { callee:=.builtin .append,args,argTypes }=>match args.toList,argTypes.toList with
   | [x,y],[t,t']=>chkX fm x sx&&chkX fm y sy&&zq7 P t t' sz bytes
   | _,_=>false
  | _=>false
 | .slc sz sx slo shi smx=>match o with
  | .slice t x lo hi mx=>match elemOf? P t with
   | some el=>chkX fm x sx&&zcJ P el sz&&zbh fm lo slo&&zbh fm hi shi&&zbh fm mx smx
   | none=>false
  | _=>false
 | .nilck sx=>match o with
  | .nilCheck x=>chkX fm x sx
  | _=>false
 | .mksl _ bytes z sx=>match o with
  | .makeSlice t l c=>match elemOf? P t with
   | some el=>chkX fm l sx&&chkX fm c sx&&zfh P el z&&zcJ P el z.length&&decide (0<z.length)&&(match P.info? el with|some i=>i.bytes==bytes&&decide (0<bytes)|none=>false)
   | none=>false
  | _=>false
 | .aeq ks neg sx sy=>match o with
  | .binOp op' xt x y _=>op'==(if neg then .neq else .eql)&&zci P 20 xt==some ks&&!P.eqGuardType P.depth xt&&tyAg P xt&&chkX fm x sx&&chkX fm y sy
  | _=>false
 | .nileq k neg sx=>match o with
  | .binOp op' xt x y _=>op'==(if neg then .neq else .eql)&&zrb P k xt y&&chkX fm x sx
  | _=>false
 | .mm mx xs=>match o with
  | .call { callee:=.builtin b,args,argTypes:=_ }=>(match b,mx with|.max,true=>true|.min,false=>true|_,_=>false)&&zbw fm args.toList xs
  | _=>false
 | .sidx sx sy=>match o with
  | .index t x y=>zgu P t&&chkX fm x sx&&chkX fm y sy
  | _=>false
 | .sslc sx slo shi=>match o with
  | .slice t x lo hi none=>zgu P t&&chkX fm x sx&&zbh fm lo slo&&zbh fm hi shi
  | _=>false
 | .mkmap _=>match o with
  | .makeMap _ none=>true
  | _=>false
 | .mget ky ok z sx sy=>match o with
  | .lookup t x y ok'=>match mapOf? P t with
   | some (kt,el)=>ok==ok'&&kyOk P kt ky&&zrd P el z&&chkX fm x sx&&chkX fm y sy
   | none=>false
  | _=>false
 | .mput ky sx sy sz=>match o with
  | .insert t x y z=>match mapOf? P t with
   | some (kt,_)=>kyOk P kt ky&&chkX fm x sx&&chkX fm y sy&&chkX fm z sz
   | none=>false
  | .mapUpdate t x y z=>match mapOf? P t with
   | some (kt,_)=>kyOk P kt ky&&chkX fm x sx&&chkX fm y sy&&chkX fm z sz
   | none=>false
  | _=>false
 | .rng _ sx=>match o with
  | .range t x=>zgu P t&&chkX fm x sx
  | _=>false
 | .nxt sx=>match o with
  | .next x true=>chkX fm x sx
  | _=>false
 | .loadR sz ag _ sx=>match o with
  | .load t x=>chkX fm x sx&&tyOk P t sz ag
  | _=>false
 | .storeA sz _ sx sy=>match o with
  | .store t x y=>chkX fm x sx&&chkX fm y sy&&zcJ P t sz
  | _=>false
 | .loadC sz ag sx=>match o with
  | .load t x=>chkX fm x sx&&tyOk P t sz ag
  | _=>false
 | .storeN _ sz sx sy=>match o with
  | .store t x y=>chkX fm x sx&&chkX fm y sy&&zcJ P t sz
  | _=>false
 | .bsliceR _ k z qs=>match o with
  | .buildSlice t k' ps=>match elemOf? P t with
   | some el=>k==k'&&zfh P el z&&zcJ P el z.length&&decide (0<z.length)&&decide (k*z.length≤16777216) &&
     zbz fm (fun j=>some (j*z.length,z.length)) ps.toList (qs.map fun q=>(q.1*z.length,z.length,q.2))
   | none=>false
  | _=>false
 | .slcA len sz sx slo shi=>match o with
  | .slice t x lo hi none=>match arrOf? P t with
   | some (k,el)=>k==len&&chkX fm x sx&&zcJ P el sz&&zbh fm lo slo&&zbh fm hi shi
   | none=>false
  | _=>false
 | .cpy sz sx sy=>match o with
  | .call { callee:=.builtin .copy,args,argTypes }=>match args.toList,argTypes.toList with
   | [x,y],[t,_]=>match elemOf? P t with
    | some el=>chkX fm x sx&&chkX fm y sy&&zcJ P el sz
    | none=>false
   | _,_=>false
  | _=>false
 | .b2s sx=>match o with
  | .convert st dt x=>(match P.underlying st with|some (.slice el)=>zlA P el .u8|_=>false)&&zgu P dt&&chkX fm x sx
  | _=>false
 | .i2s _|.s2b _ _|.ment _ _ _ _|.mst _ _ _=>false
 | .pcall _ _|.scall _ _|.kcall _ _ _|.vcall _ _ _|.scallA _ _ _|.scallE _ _=>false
section
variable {a:Act} {n:Nat} {e:Env} {H1:Heap} {o:Oper} {v:V}
theorem zjl:∀{es:List (List V)} {s:List UInt8},zeq es=some s→∃ ns:List Int,es=ns.map (fun n=>[V.int .u8 n])∧s=ns.map fun n=>UInt8.ofNat n.toNat
 | [],s,h=>by simp only[zeq,Option.some.injEq] at h; exact⟨[],rfl,by rw[←h]; rfl⟩
 | e::es,s,h=>by
  unfold zeq at h
  split at h
  ·rename_i h0; cases h0
  ·rename_i m es' he
   cases he
   split at h
   case h_2=>cases h
   rename_i bs hb
   cases h
   obtain⟨ns,h1,h2⟩:=zjl hb
   exact⟨m::ns,by rw[h1]; rfl,by rw[h2]; rfl⟩
  ·cases h
theorem zlG:∀(ns:List Int) (r:ByteArray),ns.foldl (fun r n=>r.push (UInt8.ofNat n.toNat)) r=⟨(r.data.toList++ns.map fun n=>UInt8.ofNat n.toNat).toArray⟩
 | [],r=>by simp
 | n::ns,r=>by
  rw[List.foldl_cons,zlG ns]
  simp[ByteArray.push]
theorem zm6:∀{ns:List Int} {xs:List Value},EncL M w (ns.map fun n=>V.int .u8 n) xs→xs=ns.map (Value.int .u8)
 | [],xs,h=>by simpa[EncL] using h
 | n::ns,xs,h=>by
  simp only[List.map_cons,EncL,Enc] at h
  obtain⟨x,xs',rfl,rfl,h⟩:=h
  rw[zm6 h]; rfl
theorem zw1{st dt el:TypeId}{x:Operand}{sx:X}{base:Nat}(ho:o.op=.convert st dt x)(hx:chkX M.fm x sx=true)(hs:P.underlying st=some (.slice el))(hel:P.underlying el=some (.int .u8))(hd:P.underlying dt=some .string)
  (ht:RelT M w e a n) (hr:HRel M w H) (hv:ev1 base e H (.b2s sx)=some (v,H1)):OpOk P o a M H w v H1:=by
 have hx':=zam hx ht
 simp only[ev1] at hv
 split at hv
 case h_2=>cases hv
 rename_i es tk hp
 split at hv
 case h_2=>cases hv
 rename_i s hb
 cases hv
 rw[hp] at hx'
 obtain⟨ns,he,hsn⟩:=zjl hb
 simp only[Enc] at hx'
 obtain⟨_,ad,cap,hxe,hcap,hrows,_⟩:=hx'
 refine .plain (rv:=.string ⟨s.toArray⟩) hr ?_ (by simp only[Enc])
 have hcv:=run_convert_bytes_string (P:=P) w st dt el ad es.length cap hs hel hd
 have hrun:(Conv.bytesToString (.slice ad es.length cap)).run P w=.ok (.string ⟨s.toArray⟩) w:=by
  cases ad with
  | none =>
   obtain⟨rfl,rfl⟩:=hrows
   have:ns=[]:=by simpa using he.symm
   subst this
   rw[hsn]
   simp[Conv.bytesToString]
   rfl
  | some ad =>
   obtain⟨b,off,sp⟩:=ad
   obtain⟨hsp,_,hrows⟩:=hrows
   have hl:es.length=ns.length:=by rw[he]; simp
   rw[run_bytesToString w ⟨b,off,sp⟩ es.length cap ns ?_,zlG,hsn]
   ·rfl
   ·rw[hl,←List.length_map (f:=Value.int .u8) (as:=ns)]
    by_cases hn:es=[]
    ·have:ns=[]:=by rw[hn] at he; simpa using he.symm
     subst this
     exact run_loadCells_list w _ _ (fun j v h=>by simp at h)
    have hsp:=hsp.resolve_left hn
    simp only at hsp hrows
    subst hsp
    obtain⟨xs,h1,h2⟩:=zeL hrows
    have hf:es.flatten=ns.map fun n=>V.int .u8 n:=by rw[he]; clear h1 hl hn he hp hsn hb hrows hcap hxe; induction ns with
     | nil=>rfl
     | cons n ns ih=>simp only[List.map_cons,List.flatten_cons,ih]; rfl
    rw[hf] at h1
    rw[←zm6 h1]
    refine run_loadCells_list w _ _ fun j u hu=>?_
    rw[Addr.add_mid]
    exact h2 j u hu
 simp[execOp,ho,hxe,hcv,hrun]
end
theorem arr1{α:Type}{xs:Array α}{x:α}(h:xs.toList=[x]):xs=#[x]:=by apply Array.ext'; simpa using h
theorem arr2{α:Type}{xs:Array α}{x y:α}(h:xs.toList=[x,y]):xs=#[x,y]:=by apply Array.ext'; simpa using h
theorem zsn{e:Env}{a:Act}{n base:Nat}{o:Oper}{v:V}{s:SOp}(hc:chk1 P M.fm o.op s=true)(ht:RelT M w e a n)(hr:HRel M w H)(hv:ev1 base e H s=some (v,H1)) :
  OpOk P o a M H w v H1:=by
 cases s with
 | mv sx =>
  simp only[chk1] at hc
  simp only[ev1,Option.some.injEq,Prod.mk.injEq] at hv
  obtain⟨rfl,rfl⟩:=hv
  split at hc
  ·rename_i x ho; exact zu9 (.inl ho) hc ht hr
  ·rename_i x ho; exact zu9 (.inr ho) hc ht hr
  ·cases hc
 | pick sc sa sb =>
  simp only[chk1] at hc
  simp only[ev1] at hv
  split at hc
  case h_2=>cases hc
  rename_i c x y ho
  simp only[Bool.and_eq_true] at hc
  split at hv
  case h_2=>cases hv
  rename_i b hb
  cases hv
  exact zvF ho hc.1.1 hc.1.2 hc.2 ht hr hb
 | box sl sx =>
  simp only[chk1] at hc
  simp only[ev1] at hv
  split at hc
  case h_2=>cases hc
  rename_i t x ho
  split at hv
  case h_2=>cases hv
  rename_i cs hcs
  split at hv
  case isFalse=>cases hv
  rename_i hf
  cases hv
  exact zwO ho hc ht hr hcs hf
 | alloc sl z =>
  simp only[chk1] at hc
  simp only[ev1] at hv
  split at hc
  case h_2=>cases hc
  rename_i t ho
  split at hv
  case isFalse=>cases hv
  rename_i hf
  cases hv
  obtain⟨i,zv,h1,h2,h3⟩:=zdn hc
  exact ztU ho h1 h2 h3 hr hf
 | build z qs =>
  simp only[chk1] at hc
  split at hc
  case h_2=>cases hc
  rename_i t ps ho
  simp only[Bool.and_eq_true] at hc
  obtain⟨i,zv,h1,h2,h3⟩:=zdn hc.1.1
  exact ztY ho h1 h2 h3 hc.1.2 hc.2 ht hr hv
 | bslice k z qs =>
  simp only[chk1] at hc
  split at hc
  case h_2=>cases hc
  rename_i t k' ps ho
  split at hc
  case h_2=>cases hc
  rename_i el hel
  simp only[Bool.and_eq_true,beq_iff_eq,decide_eq_true_eq] at hc
  obtain⟨⟨⟨⟨⟨rfl,hz⟩,hsz⟩,h0⟩,hk⟩,hp⟩:=hc
  obtain⟨i,zv,h1,h2,h3⟩:=zdn hz
  obtain⟨i',h1',h2'⟩:=zbt hsz
  rw[h1] at h1'; cases h1'
  exact zsk ho hel h1 h2' h0 hk h2 h3 hp ht hr hv
 | load sz ag old sx =>
  simp only[chk1] at hc
  split at hc
  case h_2=>cases hc
  rename_i t x ho
  simp only[Bool.and_eq_true] at hc
  exact zmm ho hc.1 hc.2 ht hr hv
 | store sz sx sy =>
  simp only[chk1] at hc
  split at hc
  case h_2=>cases hc
  rename_i t x y ho
  simp only[Bool.and_eq_true] at hc
  obtain⟨i,h1,h2⟩:=zbt hc.2
  exact zk2 ho hc.1.1 hc.1.2 (by rw[h1]; simp[h2]) ht hr hv
 | faddr off sx =>
  simp only[chk1] at hc
  split at hc
  case h_2=>cases hc
  rename_i t x f ho
  split at hc
  case h_2=>cases hc
  rename_i ft hft
  simp only[Bool.and_eq_true] at hc
  obtain⟨h1,h2⟩:=hc
  split at h2
  ·rename_i i hi
   exact ztV ho h1 hft hi (by simpa using h2) ht hr hv
  ·cases h2
 | fld off sz ag sx =>
  simp only[chk1] at hc
  split at hc
  case h_2=>cases hc
  rename_i t x f ho
  split at hc
  case h_2=>cases hc
  rename_i ft hft
  simp only[Bool.and_eq_true] at hc
  exact zwP ho hc.1 hft hc.2 ht hr hv
 | iaddr sz sx sy =>
  simp only[chk1] at hc
  split at hc
  case h_2=>cases hc
  rename_i t x y ho
  split at hc
  case h_2=>cases hc
  rename_i el hel
  simp only[Bool.and_eq_true] at hc
  obtain⟨i,h1,h2⟩:=zbt hc.2
  exact ztW ho hc.1.1 hc.1.2 hel h1 h2 ht hr hv
 | iaddrA len sz sx sy =>
  simp only[chk1] at hc
  split at hc
  case h_2=>cases hc
  rename_i t x y ho
  split at hc
  case h_2=>cases hc
  rename_i k el hel
  simp only[Bool.and_eq_true,beq_iff_eq] at hc
  obtain⟨⟨⟨rfl,h3⟩,h4⟩,h5⟩:=hc
  obtain⟨i,h1,h2⟩:=zbt h5
  exact zsh ho h3 h4 hel h1 h2 ht hr hv
 | idx len sz ag sx sy =>
  simp only[chk1] at hc
  split at hc
  case h_2=>cases hc
  rename_i t x y ho
  split at hc
  case h_2=>cases hc
  rename_i k el hel
  simp only[Bool.and_eq_true,beq_iff_eq] at hc
  obtain⟨⟨⟨rfl,h3⟩,h4⟩,h5⟩:=hc
  exact zwQ ho h3 h4 hel h5 ht hr hv
 | bin op sx sy =>
  simp only[chk1] at hc
  split at hc
  case h_2=>cases hc
  rename_i op' xt x y yt ho
  simp only[Bool.and_eq_true,beq_iff_eq] at hc
  obtain⟨⟨rfl,h3⟩,h4⟩:=hc
  exact zwR ho h3 h4 ht hr hv
 | beq neg sx sy =>
  simp only[chk1] at hc
  split at hc
  case h_2=>cases hc
  rename_i op' xt x y yt ho
  simp only[Bool.and_eq_true,beq_iff_eq] at hc
  obtain⟨⟨⟨rfl,h2⟩,h3⟩,h4⟩:=hc
  exact zwS ho h3 h4 (zfO h2) ht hr hv
 | un op sx =>
  simp only[chk1] at hc
  split at hc
  case h_2=>cases hc
  rename_i op' xt x ho
  simp only[Bool.and_eq_true,beq_iff_eq] at hc
  obtain⟨rfl,h3⟩:=hc
  exact zAk ho h3 ht hr hv
 | conv k sx =>
  simp only[chk1] at hc
  split at hc
  case h_2=>cases hc
  rename_i st dt x ho
  simp only[Bool.and_eq_true] at hc
  obtain⟨sd,hsd⟩:=Option.isSome_iff_exists.1 hc.1.1
  exact zvG ho hc.2 hsd (zeK hc.1.2) ht hr hv
 | mkfn f cap =>
  simp only[chk1] at hc
  simp only[ev1,Option.some.injEq,Prod.mk.injEq] at hv
  obtain⟨rfl,rfl⟩:=hv
  split at hc
  case h_2=>cases hc
  rename_i f' first cap' ho
  simp only[Bool.and_eq_true,beq_iff_eq,Array.isEmpty_iff] at hc
  obtain⟨⟨h1,rfl⟩,h3⟩:=hc
  exact zvH ho h1 h3 ht hr
 | ext i sx =>
  simp only[chk1] at hc
  split at hc
  case h_2=>cases hc
  rename_i x i' ho
  simp only[Bool.and_eq_true,beq_iff_eq] at hc
  obtain⟨rfl,h3⟩:=hc
  exact zwT ho h3 ht hr hv
 | len st sx =>
  simp only[chk1] at hc
  split at hc
  case h_2=>cases hc
  rename_i args argTypes ho
  split at hc
  case h_2=>cases hc
  rename_i x t h1 h2
  rw[arr1 h1,arr1 h2] at ho
  simp only[Bool.and_eq_true] at hc
  refine zwU ho hc.1 ?_ ht hr hv
  cases st with
  | true=>simpa using zb7 (by simpa using hc.2)
  | false=>simp only[Bool.false_eq_true,if_false] at hc ⊢; exact Option.isSome_iff_exists.1 hc.2
 | app sl sz bytes sx sy =>
  simp only[chk1] at hc
  split at hc
  case h_2=>cases hc
  rename_i args argTypes ho
  split at hc
  case h_2=>cases hc
  rename_i x y t t' h1 h2
  rw[arr2 h1,arr2 h2] at ho
  simp only[Bool.and_eq_true] at hc
  exact zwV ho hc.1.1 hc.1.2 hc.2 ht hr hv
 | slc sz sx slo shi smx =>
  simp only[chk1] at hc
  split at hc
  case h_2=>cases hc
  rename_i t x lo hi mx ho
  split at hc
  case h_2=>cases hc
  rename_i el hel
  simp only[Bool.and_eq_true] at hc
  obtain⟨⟨⟨⟨h1,h2⟩,h3⟩,h4⟩,h5⟩:=hc
  obtain⟨i,h6,h7⟩:=zbt h2
  exact zwW ho h1 hel h6 h7 h3 h4 h5 ht hr hv
 | nilck sx =>
  simp only[chk1] at hc
  split at hc
  case h_2=>cases hc
  rename_i x ho
  exact ztX ho hc ht hr hv
 | mksl s bytes z sx =>
  simp only[chk1] at hc
  split at hc
  case h_2=>cases hc
  rename_i t l c ho
  split at hc
  case h_2=>cases hc
  rename_i el hel
  simp only[Bool.and_eq_true,decide_eq_true_eq] at hc
  obtain⟨⟨⟨⟨⟨h1,h2⟩,h3⟩,h4⟩,h5⟩,h6⟩:=hc
  obtain⟨i,zv,h7,h8,h9⟩:=zdn h3
  obtain⟨i',h1',h2'⟩:=zbt h4
  rw[h7] at h1'; cases h1'
  rw[h7] at h6
  simp only[Bool.and_eq_true,beq_iff_eq,decide_eq_true_eq] at h6
  exact zvK ho h1 h2 hel h7 h2' h6.1 h6.2 h5 h8 h9 ht hr hv
 | aeq ks neg sx sy =>
  simp only[chk1] at hc
  split at hc
  case h_2=>cases hc
  rename_i op' xt x y yt ho
  simp only[Bool.and_eq_true,beq_iff_eq,Bool.not_eq_true'] at hc
  obtain⟨⟨⟨⟨⟨rfl,h1⟩,h2⟩,h3⟩,h4⟩,h5⟩:=hc
  exact zwY ho h4 h5 h1 h2 h3 ht hr hv
 | nileq k neg sx =>
  simp only[chk1] at hc
  split at hc
  case h_2=>cases hc
  rename_i op' xt x y yt ho
  simp only[Bool.and_eq_true,beq_iff_eq] at hc
  obtain⟨⟨rfl,h1⟩,h2⟩:=hc
  exact ztZ ho h2 h1 ht hr hv
 | mm mx xs =>
  simp only[chk1] at hc
  split at hc
  case h_2=>cases hc
  rename_i b args ts ho
  simp only[Bool.and_eq_true] at hc
  have hb:b=(if mx then .max else .min):=by
   have:=hc.1
   split at this<;>first|rfl|cases this
  subst hb
  exact zAl ho hc.2 ht hr hv
 | sidx sx sy =>
  simp only[chk1] at hc
  split at hc
  case h_2=>cases hc
  rename_i t x y ho
  simp only[Bool.and_eq_true] at hc
  exact zvM ho hc.1.2 hc.2 (zb7 hc.1.1) ht hr hv
 | sslc sx slo shi =>
  simp only[chk1] at hc
  split at hc
  case h_2=>cases hc
  rename_i t x lo hi ho
  simp only[Bool.and_eq_true] at hc
  exact zvN ho hc.1.1.2 (zb7 hc.1.1.1) hc.1.2 hc.2 ht hr hv
 | mkmap s =>
  simp only[chk1] at hc
  split at hc
  case h_2=>cases hc
  rename_i t ho
  exact zt0 ho hr hv
 | mget ky ok z sx sy =>
  simp only[chk1] at hc
  split at hc
  case h_2=>cases hc
  rename_i t x y ok' ho
  split at hc
  case h_2=>cases hc
  rename_i kt el hm
  simp only[Bool.and_eq_true,beq_iff_eq] at hc
  obtain⟨⟨⟨⟨rfl,h1⟩,h2⟩,h3⟩,h4⟩:=hc
  exact zvO ho h3 h4 hm h1 h2 ht hr hv
 | mput ky sx sy sz =>
  simp only[chk1] at hc
  split at hc
  ·rename_i t x y z ho
   split at hc
   case h_2=>cases hc
   rename_i kt el hm
   simp only[Bool.and_eq_true] at hc
   exact zqc (.inl ho) hc.1.1.2 hc.1.2 hc.2 hm hc.1.1.1 ht hr hv
  ·rename_i t x y z ho
   split at hc
   case h_2=>cases hc
   rename_i kt el hm
   simp only[Bool.and_eq_true] at hc
   exact zqc (.inr ho) hc.1.1.2 hc.1.2 hc.2 hm hc.1.1.1 ht hr hv
  ·cases hc
 | rng s sx =>
  simp only[chk1] at hc
  split at hc
  case h_2=>cases hc
  rename_i t x ho
  simp only[Bool.and_eq_true] at hc
  exact zwZ ho hc.2 (zb7 hc.1) ht hr hv
 | nxt sx =>
  simp only[chk1] at hc
  split at hc
  case h_2=>cases hc
  rename_i x ho
  exact zw0 ho hc ht hr hv
 | loadR sz ag r sx =>
  simp only[chk1] at hc
  split at hc
  case h_2=>cases hc
  rename_i t x ho
  simp only[Bool.and_eq_true] at hc
  refine zmm (base:=base) (old:=false) ho hc.1 hc.2 ht hr ?_
  simp only[ev1] at hv ⊢
  split at hv
  case h_2=>cases hv
  rename_i id off hp
  split at hv
  case isFalse=>cases hv
  rw[hp]
  simpa[loadAt] using hv
 | storeA sz rs sx sy =>
  simp only[chk1] at hc
  split at hc
  case h_2=>cases hc
  rename_i t x y ho
  simp only[Bool.and_eq_true] at hc
  obtain⟨i,h1,h2⟩:=zbt hc.2
  refine zk2 (base:=base) (sz:=sz) ho hc.1.1 hc.1.2 (by rw[h1]; simp[h2]) ht hr ?_
  simp only[ev1] at hv ⊢
  split at hv
  case h_2=>cases hv
  rename_i id off hp
  split at hv
  case isFalse=>cases hv
  rw[hp]
  unfold storeAt at hv
  split at hv
  ·rename_i ds cs hds hcs
   rw[hds]
   simp only[hcs]
   exact hv
  ·cases hv
 | loadC sz ag sx =>
  simp only[chk1] at hc
  split at hc
  case h_2=>cases hc
  rename_i t x ho
  simp only[Bool.and_eq_true] at hc
  refine zmm (base:=base) (old:=false) ho hc.1 hc.2 ht hr ?_
  simp only[ev1] at hv ⊢
  split at hv
  case h_2=>cases hv
  rename_i cs hp
  rw[hp]
  exact hv
 | storeN s sz sx sy =>
  simp only[chk1] at hc
  split at hc
  case h_2=>cases hc
  rename_i t x y ho
  simp only[Bool.and_eq_true] at hc
  obtain⟨i,h1,h2⟩:=zbt hc.2
  refine zk2 (base:=base) (sz:=sz) ho hc.1.1 hc.1.2 (by rw[h1]; simp[h2]) ht hr ?_
  simp only[ev1] at hv ⊢
  split at hv
  case h_2=>cases hv
  rename_i id off hp
  split at hv
  case isFalse=>cases hv
  rw[hp]
  unfold storeAt at hv
  split at hv
  ·rename_i ds cs hds hcs
   rw[hds]
   simp only[hcs]
   exact hv
  ·cases hv
 | b2s sx =>
  simp only[chk1] at hc
  split at hc
  case h_2=>cases hc
  rename_i st dt x ho
  simp only[Bool.and_eq_true] at hc
  obtain⟨⟨h1,h2⟩,h3⟩:=hc
  split at h1
  case h_2=>cases h1
  rename_i el hs
  exact zw1 ho h3 hs (zeK h1) (zb7 h2) ht hr hv
 | i2s x=>simp[chk1] at hc
 | s2b s x=>simp[chk1] at hc
 | ment ks z x k=>simp[chk1] at hc
 | mst x i v=>simp[chk1] at hc
 | bsliceR sp k z qs =>
  simp only[chk1] at hc
  split at hc
  case h_2=>cases hc
  rename_i t k' ps ho
  split at hc
  case h_2=>cases hc
  rename_i el hel
  simp only[Bool.and_eq_true,beq_iff_eq,decide_eq_true_eq] at hc
  obtain⟨⟨⟨⟨⟨rfl,hz⟩,hsz⟩,h0⟩,hk⟩,hp⟩:=hc
  obtain⟨i,zv,h1,h2,h3⟩:=zdn hz
  obtain⟨i',h1',h2'⟩:=zbt hsz
  rw[h1] at h1'; cases h1'
  exact zra ho hel h1 h2' h0 hk h2 h3 hp ht hr hv
 | slcA len sz sx slo shi =>
  simp only[chk1] at hc
  split at hc
  case h_2=>cases hc
  rename_i t x lo hi ho
  split at hc
  case h_2=>cases hc
  rename_i k el hel
  simp only[Bool.and_eq_true,beq_iff_eq] at hc
  obtain⟨⟨⟨⟨rfl,h1⟩,h2⟩,h3⟩,h4⟩:=hc
  obtain⟨i,h5,h6⟩:=zbt h2
  exact zvI ho h1 hel h5 h6 h3 h4 ht hr hv
 | cpy sz sx sy =>
  simp only[chk1] at hc
  split at hc
  case h_2=>cases hc
  rename_i args argTypes ho
  split at hc
  case h_2=>cases hc
  rename_i x y t t' hargs htypes
  split at hc
  case h_2=>cases hc
  rename_i el hel
  simp only[Bool.and_eq_true] at hc
  obtain⟨i,h5,h6⟩:=zbt hc.2
  rw[arr2 hargs,arr2 htypes] at ho
  exact zwX ho hc.1.1 hc.1.2 hel h5 h6 ht hr hv
 | kcall ro f xs=>simp[chk1] at hc
 | pcall f xs=>simp[chk1] at hc
 | scall f xs=>simp[chk1] at hc
 | scallA rs f xs=>simp[chk1] at hc
 | scallE f xs=>simp[chk1] at hc
 | vcall ro f xs=>simp[chk1] at hc
def FOK(P:Program)(fm:Fm)(f:Nat)(args:List V)(H:Heap)(r:V)(H':Heap):Prop :=
 H.length≤H'.length∧∀(M:Mm) (w:World) (vargs:List Value),M.fm=fm→HRel M w H→EncL M w args vargs →
  ((∃ F, P.funcs[fm f]? = some F ∧ F.body.isSome = true ∧ F.name ≠ "runtime.NumGoroutine") ∧
  Calls P (fm f) vargs.toArray w fun en w'=>∃ rv M',en=.returned rv∧Enc M' w' r rv∧Stp M H w M' H' w'∧Ids M M' H.length∧HRel M' w' H')
abbrev FR(ro:Option Nat):Fence:={ Fence.wide with round:=ro }
def exOf:Ex→Exit
 | .nx=>.normal
 | .exit id=>.exit id
 | .ret=>.ret
def Mk(s:Nat)(a a':Act):Prop:=∀ d∈a'.defers,d∈a.defers∨∃ D,d.target=.collected D∧s≤D
theorem Mk.refl(s:Nat)(a:Act):Mk s a a:=fun d h=>.inl h
theorem Mk.of_eq{s:Nat}{a a':Act}(h:a'.defers=a.defers):Mk s a a':=fun d hd=>.inl (h▸hd)
theorem Mk.trans{s s':Nat}{a a' a'':Act}(h:Mk s a a')(k:Mk s' a' a'')(hs:s≤s'):Mk s a a'':=fun d hd=>by
 rcases k d hd with h1|⟨D,h1,h2⟩
 ·exact h d h1
 ·exact .inr ⟨D,h1,by omega⟩
def Post(M:Mm)(H:Heap)(w:World)(a:Act)(n:Nat)(k:Nat)(x:Ex)(e':Env)(H':Heap)(Q:Exit→Act→World→Prop):Prop :=
 ∀ a' w' M',RelT M' w' e' a' n→HRel M' w' H'→Stp M H w M' H' w'→Ids M M' k→Mk w.heap.size a a'→Q (exOf x) a' w'
def COKy(P:Program)(fm:Fm)(s:SCode)(e:Env)(H:Heap)(x:Ex)(e':Env)(H':Heap):Prop :=
 H.length≤H'.length∧∀(l n:Nat) (c:Code) (M:Mm) (w:World) (a:Act) (Q:Exit→Act→World→Prop),fm.chk n s c→RelT M w e a n→HRel M w H→M.fm=fm →
  Post M H w a n H.length x e' H' Q→c.wpIn (FR (some l)) 0 P Q a w
inductive SS (P:Program) (fm:Fm) (base:Nat) (o:SOper):Env→Heap→Env→Heap→Prop
 | ev {e H v H1}:wanted e o=some true→ev1 base e H o.op=some (v,H1)→SS P fm base o e H (e.put o.dst v) H1
 | skip {e H}:wanted e o=some false→SS P fm base o e H (e.put o.dst .skp) H
 | pcall {e H f xs r H1}:wanted e o=some true→o.op=.pcall f xs→FOK P fm f (outL (xs.map (X.ev e))) [] r H1→SS P fm base o e H (e.put o.dst (frz H1 r).out) H
 | scall {e H f xs r H1}:wanted e o=some true→o.op=.scall f xs→FOK P fm f (xs.map (X.ev e)) H r H1→SS P fm base o e H (e.put o.dst (r.cl H.length)) (zad H.length H1)
 | scallA {e H rs f xs r H1}:wanted e o=some true→o.op=.scallA rs f xs→FOK P fm f (xs.map (X.ev e)) H r H1→zjd e rs H (zad H.length H1)→SS P fm base o e H (e.put o.dst (r.cl H.length)) (zad H.length H1)
 | scallE {e H f xs r H1}:wanted e o=some true→o.op=.scallE f xs→FOK P fm f (xs.map (X.ev e)) H r H1→zlz base (xs.map (X.ev e)) H (zad H.length H1)→SS P fm base o e H (e.put o.dst (r.cl H.length)) (zad H.length H1)
 | kcall {e H ro f xs r H1}:wanted e o=some true→o.op=.kcall ro f xs→FOK P fm f (xs.map (X.ev e)) H r H1→(ro=true→base≤H.length∧H1.take H.length=H)→SS P fm base o e H (e.put o.dst r) H1
 | vcall {e H ro fx xs f cap r H1}:wanted e o=some true→o.op=.vcall ro fx xs→fx.ev e=.fn f cap→FOK P fm f (xs.map (X.ev e)++cap) H r H1→(ro=true→zad H.length H1=H) →
   SS P fm base o e H (e.put o.dst (r.cl H.length)) (zad H.length H1)
 | ycall {e H fx xs id e0 ps as bo e1 H1 f0 fps fas fbo x e2 H2 g0 gps gas gbo}:wanted e o=some true→o.op=.vcall false fx xs→fx.ev e=.yld id→H[id]?=some (some (.loop e0 ps as bo .ready))→xs.length=ps.length →
   COKy P fm as (putP ps (xs.map (X.ev e)) (mkE e0)) H .nx e1 H1→H1[id]?=some (some (.loop f0 fps fas fbo .ready))→COKy P fm bo e1 (H1.set id (some (.loop f0 fps fas fbo .busy))) x e2 H2 →
   H2[id]?=some (some (.loop g0 gps gas gbo .busy)) →
   SS P fm base o e H (e.put o.dst (.bool (decide (x=.nx)))) (zad H.length (H2.set id (some (.loop g0 gps gas gbo (if x=.nx then .ready else .done x)))))
def zbl(fm:Fm)(o:Op)(s:SOp):Bool :=
 match s with
 | .pcall f xs=>match o with
  | .call { callee:=.value (.func f'),args,argTypes:=_ }=>f'==fm f&&zbw fm args.toList xs
  | _=>false
 | .scall f xs=>match o with
  | .call { callee:=.value (.func f'),args,argTypes:=_ }=>f'==fm f&&zbw fm args.toList xs
  | _=>false
 | .scallA _ f xs=>match o with
  | .call { callee:=.value (.func f'),args,argTypes:=_ }=>f'==fm f&&zbw fm args.toList xs
  | _=>false
 | .scallE f xs=>match o with
  | .call { callee:=.value (.func f'),args,argTypes:=_ }=>f'==fm f&&zbw fm args.toList xs
  | _=>false
 | .kcall _ f xs=>match o with
  | .call { callee:=.value (.func f'),args,argTypes:=_ }=>f'==fm f&&zbw fm args.toList xs
  | _=>false
 | .vcall _ fx xs=>match o with
  | .call { callee:=.value fo,args,argTypes:=_ }=>chkX fm fo fx&&zbw fm args.toList xs
  | _=>false
 | _=>false
def zk7(ops:Array Oper)(g:Option (Nat×Bool))(s:Option (Nat×Bool)):Bool :=
 match g,s with
 | none,none=>true
 | some (j,want),some (t,want')=>want==want'&&(match(ops[j]?).bind (·.dst) with|some d=>d==t|none=>false)
 | _,_=>false
def zfi(P:Program)(fm:Fm)(n:Nat)(ops:Array Oper)(o:Oper)(s:SOper):Bool :=
 (match o.dst,s.dst with|none,none=>true|some d,some d'=>d==d'&&decide (d<n)|_,_=>false)&&zk7 ops o.guard s.guard &&
  (chk1 P fm o.op s.op||zbl fm o.op s.op)
theorem zcs{e:Env}{a:Act}{n:Nat}{ops:Array Oper}{o:Oper}{s:SOper}{b:Bool}(hg:zk7 ops o.guard s.guard=true)(ht:RelT M w e a n)(hw:wanted e s=some b) :
  Region.wanted o (yielded ops a.tmps)=b:=by
 unfold zk7 at hg
 unfold wanted at hw
 unfold Region.wanted
 split at hg
 ·rename_i h1 h2
  simp only[h2,Option.some.injEq] at hw
  simp only[h1]
  exact hw
 ·rename_i j want t want' h1 h2
  simp only[h2] at hw
  simp only[h1]
  simp only[Bool.and_eq_true,beq_iff_eq] at hg
  obtain⟨rfl,hg⟩:=hg
  split at hg
  case h_2=>cases hg
  rename_i d hd
  simp only[beq_iff_eq] at hg
  subst hg
  split at hw
  case h_3=>cases hw
  case h_2 =>
   rename_i hc
   simp only[Option.some.injEq] at hw
   subst hw
   have:=ht.rel d
   rw[hc] at this
   simp only[Enc] at this
   have hy:yielded ops a.tmps j=none:=by
    unfold yielded
    simp only[hd,Option.bind_some]
    rw[Array.getD_eq_getD_getElem?] at this
    cases hq:a.tmps[d]? with
    | none=>rfl
    | some x=>rw[hq] at this; simp only[Option.getD_some] at this; subst this; rfl
   rw[hy]; rfl
  rename_i c hc
  simp only[Option.some.injEq] at hw
  subst hw
  have:=ht.rel d
  rw[hc] at this
  simp only[Enc] at this
  have hget:a.tmps[d]?=some (.bool c):=by
   rw[Array.getD_eq_getD_getElem?] at this
   cases hq:a.tmps[d]? with
   | none=>rw[hq] at this; simp[undef] at this
   | some x=>rw[hq] at this; simp at this; rw[this]
  simp[yielded,hd,hget]
 ·cases hg
theorem zt1{e:Env}{a:Act}{n:Nat}{d:Option Nat}{v:V}{rv:Value}(ht:RelT M w e a n)(hd:∀ k,d=some k→k<n)(he:d.isSome=true→Enc M w v rv):RelT M w (e.put d v) (a.put d rv) n:=by
 cases d with
 | none=>exact ht
 | some k =>
  have hk:=hd k rfl
  refine⟨by simp[Act.put,ht.size],by simpa[Act.put] using ht.defers,fun i=>?_,ht.glo⟩
  simp only[Env.put_some,Act.put]
  have hs:=ht.size
  by_cases hi:i=k
  ·subst hi
   rw[if_pos rfl]
   rw[Array.getD_eq_getD_getElem?,Array.getElem?_setIfInBounds_self_of_lt (by omega)]
   exact he rfl
  ·rw[if_neg hi,Array.getD_eq_getD_getElem?,Array.getElem?_setIfInBounds_ne (by omega),←Array.getD_eq_getD_getElem?]
   exact ht.rel i
theorem zfZ(hr:HRel M w H){D:Nat}{o:Option (List Deferred)}(hD:w.heap[D]?=some (.deferred o)):¬zcg M H D:=by
 rintro⟨id,hid⟩
 unfold blOf at hid
 split at hid
 ·rename_i n hb
  have:=hr.rel id _ hb
  simp only[BRel,hid] at this
  obtain⟨_,_,_,_,_,xs,e,hc,_⟩:=this
  rw[hD] at hc; cases hc
 ·rename_i blk hn hb
  have:=hr.rel id _ hb
  simp only[Option.some.injEq] at hid
  subst hid
  cases blk with
  | zone n=>exact absurd rfl (hn n)
  | cells cs=>simp only[BRel] at this; obtain⟨_,_,xs,e,hc,_⟩:=this; rw[hD] at hc; cases hc
  | froz cs=>simp only[BRel] at this; obtain⟨_,_,xs,e,hc,_⟩:=this; rw[hD] at hc; cases hc
  | map es=>simp only[BRel] at this; obtain⟨_,ents,hc,_⟩:=this; rw[hD] at hc; cases hc
  | siter t pos=>simp only[BRel] at this; rw[hD] at this; cases this.2
  | loop e0 ps as bo st=>simp only[BRel] at this; obtain⟨_,r,hc,_⟩:=this; rw[hD] at hc; cases hc
 ·cases hid
theorem zfP{a:Act}{H':Heap}(h:Stp M H w M' H' w')(hr:HRel M w H)(hd:a.defers.Nodup∧∀ d∈a.defers,∃ D,d={ target:=.collected D,args:=#[] }∧w.heap[D]?=some (.deferred (some []))) :
  a.defers.Nodup∧∀ d∈a.defers,∃ D,d={ target:=.collected D,args:=#[] }∧w'.heap[D]?=some (.deferred (some [])) :=
 ⟨hd.1,fun d hm=>by
  obtain⟨D,h1,h2⟩:=hd.2 d hm
  exact⟨D,h1,(h.same D (Array.getElem?_eq_some_iff.1 h2).1 (zfZ hr h2)).trans h2⟩⟩
theorem RelT.step{e:Env}{a:Act}{n:Nat}{H':Heap}(h:Stp M H w M' H' w')(hr:HRel M w H)(hi:Ids M M' H.length)(ht:RelT M w e a n):RelT M' w' e a n :=
 ⟨ht.size,zfP h hr ht.defers,fun i=>Enc.step h hr hi (ht.rel i),ht.glo.step h hr hi⟩
end Go.Ev
/- One checked operation is sound; regions in the text's order. -/
namespace Go.Ev
open Go Go.RowKit
variable {P:Program} {M M':Mm} {H H1:Heap} {w w':World} {fm:Fm}
mutual
theorem Enc.free{M1 M2:Mm}(ha:∀ id,M1.al id=false)(hl:∀ b o,Rd M1 b o→Rd M2 b o)(hf:∀ f,M2.fm f=M1.fm f):∀{c:V} {x:Value},Enc M1 w c x→Enc M2 w c x
 | .undef,_,_=>by simp only[Enc]
 | .skp,_,e=>by simpa only[Enc] using e
 | .any,_,e=>by simpa only[Enc] using e
 | .int _ _,_,e=>by simpa only[Enc] using e
 | .bool _,_,e=>by simpa only[Enc] using e
 | .str _,_,e=>by simpa only[Enc] using e
 | .nilp,_,e=>by simpa only[Enc] using e
 | .nilf,_,e=>by simpa only[Enc] using e
 | .nilm,_,e=>by simpa only[Enc] using e
 | .mp id,_,e=>by simp only[Enc,ha] at e; exact absurd e.1 (by simp)
 | .yld id,_,e=>by simp only[Enc,ha] at e; exact absurd e.1 (by simp)
 | .ptr id off,_,e=>by simp only[Enc,ha] at e; exact absurd e.1 (by simp)
 | .rs id off k _,_,e=>by simp only[Enc,ha] at e; exact absurd e.1 (by simp)
 | .cptr cs,_,e=>by
  simp only[Enc] at e ⊢
  obtain⟨p,b,o,hv,e⟩:=e
  exact⟨p,b,o,hv,zaq.free ha hl hf e⟩
 | .vs es tk,_,e=>by
  simp only[Enc] at e ⊢
  obtain⟨p,a,cap,hv,hc,hs,ht⟩:=e
  refine⟨p,a,cap,hv,hc,?_,?_⟩
  ·cases a with
   | none=>exact hs
   | some ad=>exact⟨hs.1,hs.2.1,zao.free ha hl hf hs.2.2⟩
  ·cases tk with
   | no=>trivial
   | full=>exact ht
   | own q=>simp only[TkOk,ha] at ht; exact absurd ht.1 (by simp)
 | .fn f cap,_,e=>by
  simp only[Enc] at e ⊢
  obtain⟨xs,hv,e⟩:=e
  exact⟨xs,by rw[hf]; exact hv,EncL.free ha hl hf e⟩
 | .agg cs,_,e=>by
  simp only[Enc] at e ⊢
  obtain⟨p,xs,hv,e⟩:=e
  exact⟨p,xs,hv,EncL.free ha hl hf e⟩
 | .tup cs,_,e=>by
  simp only[Enc] at e ⊢
  obtain⟨xs,hv,e⟩:=e
  exact⟨xs,hv,EncL.free ha hl hf e⟩
theorem EncL.free{M1 M2:Mm}(ha:∀ id,M1.al id=false)(hl:∀ b o,Rd M1 b o→Rd M2 b o)(hf:∀ f,M2.fm f=M1.fm f):∀{cs:List V} {xs:List Value},EncL M1 w cs xs→EncL M2 w cs xs
 | [],_,e=>by simpa only[EncL] using e
 | c::cs,_,e=>by
  simp only[EncL] at e ⊢
  obtain⟨x,xs',hv,e1,e2⟩:=e
  exact⟨x,xs',hv,Enc.free ha hl hf e1,EncL.free ha hl hf e2⟩
theorem zaq.free{M1 M2:Mm}(ha:∀ id,M1.al id=false)(hl:∀ b o,Rd M1 b o→Rd M2 b o)(hf:∀ f,M2.fm f=M1.fm f){b:Nat}:∀{cs:List V} {o:Nat},zaq M1 w b cs o→zaq M2 w b cs o
 | [],_,_=>by simp only[zaq]
 | c::cs,o,e=>by
  simp only[zaq] at e ⊢
  obtain⟨⟨x,hx,rd,e1⟩,e2⟩:=e
  exact⟨⟨x,hx,hl _ _ rd,Enc.free ha hl hf e1⟩,zaq.free ha hl hf e2⟩
theorem zao.free{M1 M2:Mm}(ha:∀ id,M1.al id=false)(hl:∀ b o,Rd M1 b o→Rd M2 b o)(hf:∀ f,M2.fm f=M1.fm f){b:Nat}:∀{es:List (List V)} {o:Nat},zao M1 w b es o→zao M2 w b es o
 | [],_,_=>by simp only[zao]
 | e::es,o,k=>by
  simp only[zao] at k ⊢
  exact⟨zaq.free ha hl hf k.1,zao.free ha hl hf k.2⟩
end
theorem zm7(M:Mm)(id:Nat):(M.upto 0).al id=false:=by simp[Mm.upto]
theorem zre(H:Heap):zad 0 H=[]:=by simp[zad]
theorem zfj{o:Oper}{a:Act}{f:FuncId}{args:Array Operand}{ts:Array TypeId}{fo:Operand}{caps:Array Value}(ho:o.op=.call { callee:=.value fo,args:=args,argTypes:=ts })
  (hf : a.eval fo = .func (.func f) #[] caps) (hF : ∃ F, P.funcs[f]? = some F ∧ F.body.isSome = true ∧ F.name ≠ "runtime.NumGoroutine") :
  (execOp a.eval o).run P w=.ok (.enter f (args.map a.eval++caps)) w:=by
 obtain⟨F,h1,h2,h3⟩:=hF
 cases hb:F.body with
 | none=>rw[hb] at h2; cases h2
 | some c=>simp[execOp,ho,resolve,hf,Deferred.ofValue,invoke,callFunc,h1,h3,hb]
theorem Enc.pure'{M1 M2:Mm}(hl:∀ b o,Rd M1 b o→Rd M2 b o)(hf:∀ f,M2.fm f=M1.fm f){c:V}{x:Value}(hp:c.pure=true)(h:Enc M1 w c x):Enc M2 w c x:=by
 have:=Enc.free (M1:=M1.upto 0) (M2:=M2) (fun id=>zm7 M1 id) hl hf (Enc.upto 0 h)
 rwa[V.cl_pure 0 c hp] at this
theorem zhD{sz:Nat}:∀{k:Nat} {cs:List V},k*sz≤cs.length→(zbj sz k cs).flatten=cs.take (k*sz)∧(zbj sz k cs).length=k∧∀ e∈zbj sz k cs,e.length=sz∧∀ c∈e,c∈cs
 | 0,cs,_=>by simp[zbj]
 | k+1,cs,h=>by
  rw[Nat.add_mul,Nat.one_mul] at h
  obtain⟨h1,h2,h3⟩:=zhD (sz:=sz) (k:=k) (cs:=cs.drop sz) (by rw[List.length_drop]; omega)
  refine⟨?_,by simp[zbj,h2],?_⟩
  ·simp only[zbj,List.flatten_cons,h1]
   rw[Nat.add_mul,Nat.one_mul,Nat.add_comm,List.take_add]
  ·intro e he
   simp only[zbj,List.mem_cons] at he
   rcases he with rfl|he
   ·exact⟨by rw[List.length_take]; omega,fun c hc=>List.mem_of_mem_take hc⟩
   ·exact⟨(h3 e he).1,fun c hc=>List.mem_of_mem_drop ((h3 e he).2 c hc)⟩
theorem Enc.nf1{c:V}{x:Value}(h:Enc M w c x):Enc M w c.nf1 x:=by
 cases c<;>first|exact h|skip
 simp only[V.nf1,Enc] at h ⊢
 obtain⟨p,a,cap,hv,hc,hs,_⟩:=h
 exact⟨p,a,cap,hv,hc,hs,trivial⟩
theorem EncL.map_of{g:V→V}(hg:∀{c:V} {x:Value},Enc M w c x→Enc M w (g c) x):∀{cs:List V} {xs:List Value},EncL M w cs xs→EncL M w (cs.map g) xs
 | [],_,h=>by simpa only[EncL,List.map_nil] using h
 | c::cs,_,h=>by
  simp only[EncL,List.map_cons] at h ⊢
  obtain⟨x,xs',rfl,h1,h2⟩:=h
  exact⟨x,xs',rfl,hg h1,EncL.map_of hg h2⟩
theorem V.nf1_scal(c:V):c.nf1.scal=c.scal:=by cases c<;>rfl
theorem Enc.nf2{c:V}{x:Value}(h:Enc M w c x):Enc M w c.nf2 x:=by
 cases c<;>first|exact h|exact Enc.nf1 h|skip
 simp only[V.nf2,Enc] at h ⊢
 obtain⟨p,xs,hv,he⟩:=h
 refine⟨?_,xs,hv,EncL.map_of Enc.nf1 he⟩
 intro c hc
 obtain⟨d,hd,rfl⟩:=List.mem_map.1 hc
 rw[V.nf1_scal]; exact p d hd
theorem Enc.nf{c:V}{x:Value}(h:Enc M w c x):Enc M w c.nf x:=by
 cases c<;>first|exact Enc.nf2 h|skip
 simp only[V.nf,Enc] at h ⊢
 obtain⟨xs,hv,he⟩:=h
 exact⟨xs,hv,EncL.map_of Enc.nf2 he⟩
theorem zt2{cs:List V}{xs:List Value}(h:EncL M w (clL 0 cs) xs):EncL M w (outL cs) xs:=by
 rw[zav] at h
 have:=EncL.map_of Enc.nf h
 rw[List.map_map] at this
 exact this
theorem zou{H':Heap}{M2:Mm}{r:V}{rv:Value}(he:Enc M' w' r rv)(hr:HRel M' w' H')(hl:∀ b o,Rd M' b o→Rd M2 b o)(hn:∀ b,zcg M' H' b→∀ o,Rd M2 b o)(hf:∀ f,M2.fm f=M'.fm f):Enc M2 w' ((frz1 H' r).cl 0) rv:=by
 have plain:Enc M2 w' (r.cl 0) rv:=Enc.free (M1:=M'.upto 0) (fun id=>zm7 M' id) hl hf (Enc.upto 0 he)
 cases r<;>simp only[frz1]<;>try exact plain
 rename_i id off n sz
 cases hb:H'[id]? with
 | none=>exact plain
 | some ob=>cases ob with
  | none=>exact plain
  | some blk=>cases blk with
   | zone k=>exact plain
   | froz k=>exact plain
   | map k=>exact plain
   | siter k q=>exact plain
   | loop e0 ps as bo st=>exact plain
   | cells cs =>
    simp only
    by_cases hc:off+n*sz≤cs.length∧cs.all V.pure=true
    ·rw[if_pos hc]
     obtain⟨hle,hpu⟩:=hc
     have hpu:=List.all_eq_true.1 hpu
     simp only[Enc] at he
     obtain⟨ha,cap,rfl,hcap⟩:=he
     have hb':=hr.rel id _ hb
     simp only[BRel] at hb'
     obtain⟨_,_,xs,te,hh,hE⟩:=hb'
     obtain⟨h1,h2,h3⟩:=zhD (sz:=sz) (k:=n) (cs:=cs.drop off) (by rw[List.length_drop]; omega)
     have hown:zcg M' H' (M'.j id):=⟨id,by simp[blOf,hb]⟩
     simp only[V.cl,Tk.cl,Enc]
     refine⟨fun e he c hc=>hpu c (List.mem_of_mem_drop ((h3 e he).2 c hc)),some ⟨M'.j id,off,none⟩,cap,by rw[h2],by rw[h2]; exact hcap,⟨.inr rfl,⟨sz,fun e he=>(h3 e he).1⟩,?_⟩,trivial⟩
     rw[zdS,h1]
     refine zcM fun i c hc=>?_
     rw[List.getElem?_take] at hc
     split at hc
     ·rw[List.getElem?_drop] at hc
      obtain⟨x,hx,hex⟩:=zaN hE hc
      refine⟨x,?_,hn _ hown _,Enc.pure' hl hf (hpu c (List.mem_of_getElem? hc)) hex⟩
      rw[cell_of_row w' (M'.j id) (off+i) xs te (0,0) hh]
      simpa using hx
     ·cases hc
    ·rw[if_neg hc]; exact plain
theorem zvP{H':Heap}{M2:Mm}{r:V}{rv:Value}(he:Enc M' w' r rv)(hr:HRel M' w' H')(hl:∀ b o,Rd M' b o→Rd M2 b o)(hn:∀ b,zcg M' H' b→∀ o,Rd M2 b o)(hf:∀ f,M2.fm f=M'.fm f):Enc M2 w' ((frz H' r).cl 0) rv:=by
 cases r<;>simp only[frz]<;>try exact zou he hr hl hn hf
 rename_i vs
 simp only[Enc] at he
 obtain⟨xs,rfl,he⟩:=he
 simp only[V.cl,Enc]
 refine⟨xs,rfl,?_⟩
 rw[zav,List.map_map]
 refine zcl (by have:=zaj he; simpa using this) fun i c x hc hx=>?_
 rw[List.getElem?_map,Option.map_eq_some_iff] at hc
 obtain⟨u,hu,rfl⟩:=hc
 obtain⟨x',hx',he'⟩:=zaN he hu
 rw[hx] at hx'; cases hx'
 exact zou he' hr hl hn hf
theorem zso(hr:HRel M w H){H':Heap}{r:V}{rv:Value}(he:Enc M' w' r rv)(hs:Stp (M.upto 0) [] w M' H' w')(hr':HRel M' w' H') :
  ∃ M'',Stp M H w M'' H w'∧Ids M M'' H.length∧HRel M'' w' H∧Enc M'' w' (frz H' r).out rv:=by
 have hno:∀ b,¬zcg (M.upto 0) [] b:=by
  rintro b ⟨id,hid⟩
  simp[blOf] at hid
 have g:Grew w w':=⟨hs.os,hs.tape,hs.output,hs.size,fun b hb=>hs.same b hb (hno b)⟩
 obtain⟨s,i,r'⟩:=zin (M':={ M with lim:=fun b=>if b<w.heap.size then M.lim b else none }) hr g ⟨rfl,rfl,rfl,rfl,fun b hb=>by simp[hb]⟩
 refine⟨_,s,i,r',?_⟩
 refine Enc.nf (zvP (M2:={ M with lim:=fun b=>if b<w.heap.size then M.lim b else none }) he hr' (fun b o rd l hl=>?_) (fun b ho o l hl=>?_) (fun f=>by rw[hs.fm]; rfl))
 ·simp only at hl
  split at hl
  ·rename_i hb
   exact rd l (by rw[hs.limo b hb (hno b)]; exact hl)
  ·cases hl
 ·simp only at hl
  split at hl
  ·rename_i hb
   exact absurd (hs.own b hb ho) (hno b)
  ·cases hl
theorem zdo{ro:Option Nat}{ρ:Operand→Value}{o:Oper}(h:∀ c,o.op≠.defer c):Oper.semAt ro ρ o=execOp ρ o:=by
 cases ro with
 | none=>rfl
 | some l=>exact Oper.semAt_some l ρ o h
theorem zfk{ro:Option Nat}{n:Nat}{f:FuncId}{args:Array Value}{R:Ending→World→Prop}(h:Calls P f args w R):CallsIn (FR ro) n P f args w R:=(callsIn_wide (n:=n)).2 h
theorem zrf{o:Op}{s:SOp}(h:chk1 P fm o s=true):∀ c,o≠.defer c:=by
 rintro c rfl
 cases s<;>simp[chk1] at h
theorem zk8(hr:HRel M w H){id:Nat}{e0:List (Nat×V)}{ps:List Nat}{as bo:SCode}{st st':LSt}{r r':Loop}(hb:H[id]?=some (some (.loop e0 ps as bo st)))(hw:w.heap[M.j id]?=some (.loop r))(ht:r'.tmps=r.tmps)(hp:r'.params=r.params)(ha:r'.assign=r.assign)(hbo:r'.body=r.body)
  (hs:zq4 st' r'):∃ M',Stp M H w M' (H.set id (some (.loop e0 ps as bo st'))) (w.putObj (M.j id) (.loop r'))∧Ids M M' H.length∧HRel M' (w.putObj (M.j id) (.loop r')) (H.set id (some (.loop e0 ps as bo st')))∧M'.j=M.j:=by
 have h0:=hr.rel id _ hb
 simp only[BRel] at h0
 obtain⟨hl0,r0,hc,h1,h2,h3,h4,h5⟩:=h0
 rw[hw] at hc
 cases hc
 have hlt:=(Array.getElem?_eq_some_iff.1 hw).1
 obtain⟨s,i,q⟩:=zj8 (blk1:=.loop e0 ps as bo st') (w':=w.putObj (M.j id) (.loop r')) hr hb rfl rfl hl0 0 rfl rfl rfl World.putObj_size (fun b hb=>World.putObj_heap_other hb) fun hst hid=>by
  simp only[BRel]
  refine⟨by simp[Mm.limit],r',World.putObj_heap_same hlt,hs,?_,by rw[ht,ha]; exact h3,by rw[ht,hbo]; exact h4,fun p hp=>by rw[ht]; exact Enc.step hst hr hid (h5 p hp)⟩
  rw[LPs,hp,ht]; exact h2
 exact⟨_,s,i,q,rfl⟩
theorem zov:∀{ps:List Nat} {vs:List V} {xs:List Value} {tmps:Array Value} {e:Env},EncL M w vs xs→(∀ p∈ps,p<tmps.size)→ps.length=vs.length→(∀ i,Enc M w (e i) (tmps.getD i undef)) →
  (∀ i,Enc M w (putP ps vs e i) (((ps.zip xs).foldl (fun(t:Array Value) (q:Nat×Value)=>t.setIfInBounds q.1 q.2) tmps).getD i undef))∧((ps.zip xs).foldl (fun(t:Array Value) (q:Nat×Value)=>t.setIfInBounds q.1 q.2) tmps).size=tmps.size
 | [],[],xs,tmps,e,h,_,_,he=>by
  simp only[EncL] at h; subst h
  exact⟨he,rfl⟩
 | [],_::_,_,_,_,_,_,hl,_=>by simp at hl
 | _::_,[],_,_,_,_,_,hl,_=>by simp at hl
 | p::ps,v::vs,xs,tmps,e,h,hp,hl,he=>by
  simp only[EncL] at h
  obtain⟨x,xs',rfl,h1,h2⟩:=h
  have hpt:=hp p (by simp)
  have:=zov (ps:=ps) (vs:=vs) (xs:=xs') (tmps:=tmps.setIfInBounds p x) (e:=e.put (some p) v) h2 (fun q hq=>by simpa using hp q (by simp[hq])) (by simpa using hl) (fun i=>by
   simp only[Env.put_some]
   by_cases hi:i=p
   ·subst hi
    rw[if_pos rfl,Array.getD_eq_getD_getElem?,Array.getElem?_setIfInBounds_self_of_lt hpt]
    exact h1
   ·rw[if_neg hi,Array.getD_eq_getD_getElem?,Array.getElem?_setIfInBounds_ne (by omega),←Array.getD_eq_getD_getElem?]
    exact he i)
  exact⟨this.1,by rw[List.zip_cons_cons,List.foldl_cons,this.2]; simp⟩
theorem zqd{tmps:Array Value}:∀{e0:List (Nat×V)},(∀ p∈e0,Enc M w p.2 (tmps.getD p.1 undef))→∀ i,Enc M w (mkE e0 i) (tmps.getD i undef)
 | [],_,i=>by simp only[mkE,Enc]
 | (d,v)::e0,h,i=>by
  simp only[mkE]
  split
  ·rename_i hi; subst hi; exact h (i,v) (by simp)
  ·exact zqd (fun p hp=>h p (by simp[hp])) i
theorem SS.sound{ro:Option Nat}{base n:Nat}{s:SOper}{o:Oper}{ops:Array Oper}{e e1:Env}{a:Act}(h:SS P fm base s e H e1 H1)(hc:zfi P fm n ops o s=true)(ht:RelT M w e a n)(hr:HRel M w H)(hm:M.fm=fm)
  {K:Act→World→Prop} {Q:Exit→Act→World→Prop}
  (hk:∀ a' w' M',RelT M' w' e1 a' n→HRel M' w' H1→Stp M H w M' H1 w'→Ids M M' H.length→a'.defers=a.defers→K a' w') :
  if Region.wanted o (yielded ops a.tmps)=true then o.wpIn (FR ro) 0 P a w K Q else(∀ f,o.about P w a.eval=some f→(FR ro).fn f)∧K (a.put o.dst undef) w:=by
 subst hm
 unfold zfi at hc
 simp only[Bool.and_eq_true,Bool.or_eq_true] at hc
 obtain⟨⟨hd,hg⟩,hc⟩:=hc
 have hdst:o.dst=s.dst∧∀ k,s.dst=some k→k<n:=by
  split at hd
  ·rename_i h1 h2; exact⟨by rw[h1,h2],fun k hk=>by rw[h2] at hk; cases hk⟩
  ·rename_i d d' h1 h2
   simp only[Bool.and_eq_true,beq_iff_eq,decide_eq_true_eq] at hd
   obtain⟨rfl,hd⟩:=hd
   exact⟨by rw[h1,h2],fun k hk=>by rw[h2] at hk; cases hk; exact hd⟩
  ·cases hd
 obtain⟨hde,hdn⟩:=hdst
 -- what is done when the operation has left a value
 have fin:∀ w' M' rv v,Stp M H w M' H1 w'→Ids M M' H.length→HRel M' w' H1→Enc M' w' v rv→e1=e.put s.dst v→K (a.put o.dst rv) w':=by
  intro w' M' rv v h1 h2 h3 h4 h5
  subst h5
  rw[hde]
  exact hk _ _ _ (zt1 (RelT.step h1 hr h2 ht) hdn (fun _=>h4)) h3 h1 h2 (by cases s.dst<;>rfl)
 cases h with
 | ev hw hv =>
  rw[zcs hg ht hw,if_pos rfl]
  have hc1:chk1 P M.fm o.op s.op=true:=by
   rcases hc with hc|hc
   ·exact hc
   ·exfalso
    unfold zbl at hc
    split at hc
    ·rename_i hs; rw[hs] at hv; simp[ev1] at hv
    ·rename_i hs; rw[hs] at hv; simp[ev1] at hv
    ·rename_i hs; rw[hs] at hv; simp[ev1] at hv
    ·rename_i hs; rw[hs] at hv; simp[ev1] at hv
    ·rename_i hs; rw[hs] at hv; simp[ev1] at hv
    ·rename_i hs; rw[hs] at hv; simp[ev1] at hv
    ·cases hc
  obtain⟨nx,w',M',hrun,hnx,h1,h2,h3⟩:=zsn hc1 ht hr hv
  unfold Oper.wpIn
  refine⟨fun _ _=>trivial,?_⟩
  rw[zdo (zrf hc1),hrun]
  cases nx with
  | value rv=>exact fin _ _ _ _ h1 h2 h3 hnx rfl
  | skip =>
   simp only at hnx
   exact fin w' M' undef _ h1 h2 h3 (by rw[hnx]; simp only[Enc]) rfl
  | _=>exact hnx.elim
 | skip hw =>
  rw[zcs hg ht hw]
  simp only[Bool.false_eq_true,if_false]
  refine⟨fun _ _=>trivial,?_⟩
  exact fin w M undef .skp (Stp.refl M H w) (Ids.refl _ _) hr (by simp only[Enc]) rfl
 | pcall hw hop hf =>
  rename_i f xs r H2
  rw[zcs hg ht hw,if_pos rfl]
  have hcc:zbl M.fm o.op s.op=true:=by
   rcases hc with hc|hc
   ·rw[hop] at hc; simp[chk1] at hc
   ·exact hc
  rw[hop] at hcc
  simp only[zbl] at hcc
  split at hcc
  case h_2=>cases hcc
  rename_i f' args ts ho
  simp only[Bool.and_eq_true,beq_iff_eq] at hcc
  obtain⟨rfl,hxs⟩:=hcc
  have h0:HRel (M.upto 0) w []:=by have:=(zce hr 0).2.2; rwa[zre] at this
  obtain⟨hF,hcall⟩:=hf.2 (M.upto 0) w (args.toList.map a.eval) rfl h0 (zt2 (EncL.upto 0 (zb6 hxs ht)))
  have hrun:=zfj (P:=P) (w:=w) (a:=a) (caps:=#[]) ho rfl hF
  unfold Oper.wpIn
  refine⟨fun _ _=>trivial,?_⟩
  rw[zdo (by rw[ho]; simp),hrun]
  have hargs:args.map a.eval++#[]=(args.toList.map a.eval).toArray:=by apply Array.ext'; simp
  rw[hargs]
  refine⟨fun h=>by(cases h),zfk (hcall.mono ?_)⟩
  rintro en w' ⟨rv,M',rfl,he,hs,_,hr'⟩
  obtain⟨M'',h1,h2,h3,h4⟩:=zso hr he hs hr'
  exact fin _ _ _ _ h1 h2 h3 h4 rfl
 | scall hw hop hf =>
  rename_i f xs r H2
  rw[zcs hg ht hw,if_pos rfl]
  have hcc:zbl M.fm o.op s.op=true:=by
   rcases hc with hc|hc
   ·rw[hop] at hc; simp[chk1] at hc
   ·exact hc
  rw[hop] at hcc
  simp only[zbl] at hcc
  split at hcc
  case h_2=>cases hcc
  rename_i f' args ts ho
  simp only[Bool.and_eq_true,beq_iff_eq] at hcc
  obtain⟨rfl,hxs⟩:=hcc
  obtain⟨hF,hcall⟩:=hf.2 M w (args.toList.map a.eval) rfl hr (zb6 hxs ht)
  have hrun:=zfj (P:=P) (w:=w) (a:=a) (caps:=#[]) ho rfl hF
  unfold Oper.wpIn
  refine⟨fun _ _=>trivial,?_⟩
  rw[zdo (by rw[ho]; simp),hrun]
  have hargs:args.map a.eval++#[]=(args.toList.map a.eval).toArray:=by apply Array.ext'; simp
  rw[hargs]
  refine⟨fun h=>by(cases h),zfk (hcall.mono ?_)⟩
  rintro en w' ⟨rv,M',rfl,he,hs,hi,hr'⟩
  obtain⟨s1,s2,s3⟩:=zce hr' H.length
  exact fin _ _ _ _ (hs.trans s1) (hi.trans s2 (Nat.le_refl _)) s3 (Enc.upto _ he) rfl
 | scallA hw hop hf _ =>
  rename_i rs f xs r H2
  rw[zcs hg ht hw,if_pos rfl]
  have hcc:zbl M.fm o.op s.op=true:=by
   rcases hc with hc|hc
   ·rw[hop] at hc; simp[chk1] at hc
   ·exact hc
  rw[hop] at hcc
  simp only[zbl] at hcc
  split at hcc
  case h_2=>cases hcc
  rename_i f' args ts ho
  simp only[Bool.and_eq_true,beq_iff_eq] at hcc
  obtain⟨rfl,hxs⟩:=hcc
  obtain⟨hF,hcall⟩:=hf.2 M w (args.toList.map a.eval) rfl hr (zb6 hxs ht)
  have hrun:=zfj (P:=P) (w:=w) (a:=a) (caps:=#[]) ho rfl hF
  unfold Oper.wpIn
  refine⟨fun _ _=>trivial,?_⟩
  rw[zdo (by rw[ho]; simp),hrun]
  have hargs:args.map a.eval++#[]=(args.toList.map a.eval).toArray:=by apply Array.ext'; simp
  rw[hargs]
  refine⟨fun h=>by(cases h),zfk (hcall.mono ?_)⟩
  rintro en w' ⟨rv,M',rfl,he,hs,hi,hr'⟩
  obtain⟨s1,s2,s3⟩:=zce hr' H.length
  exact fin _ _ _ _ (hs.trans s1) (hi.trans s2 (Nat.le_refl _)) s3 (Enc.upto _ he) rfl
 | scallE hw hop hf _ =>
  rename_i f xs r H2
  rw[zcs hg ht hw,if_pos rfl]
  have hcc:zbl M.fm o.op s.op=true:=by
   rcases hc with hc|hc
   ·rw[hop] at hc; simp[chk1] at hc
   ·exact hc
  rw[hop] at hcc
  simp only[zbl] at hcc
  split at hcc
  case h_2=>cases hcc
  rename_i f' args ts ho
  simp only[Bool.and_eq_true,beq_iff_eq] at hcc
  obtain⟨rfl,hxs⟩:=hcc
  obtain⟨hF,hcall⟩:=hf.2 M w (args.toList.map a.eval) rfl hr (zb6 hxs ht)
  have hrun:=zfj (P:=P) (w:=w) (a:=a) (caps:=#[]) ho rfl hF
  unfold Oper.wpIn
  refine⟨fun _ _=>trivial,?_⟩
  rw[zdo (by rw[ho]; simp),hrun]
  have hargs:args.map a.eval++#[]=(args.toList.map a.eval).toArray:=by apply Array.ext'; simp
  rw[hargs]
  refine⟨fun h=>by(cases h),zfk (hcall.mono ?_)⟩
  rintro en w' ⟨rv,M',rfl,he,hs,hi,hr'⟩
  obtain⟨s1,s2,s3⟩:=zce hr' H.length
  exact fin _ _ _ _ (hs.trans s1) (hi.trans s2 (Nat.le_refl _)) s3 (Enc.upto _ he) rfl
 | kcall hw hop hf _ =>
  rename_i ro f xs r
  rw[zcs hg ht hw,if_pos rfl]
  have hcc:zbl M.fm o.op s.op=true:=by
   rcases hc with hc|hc
   ·rw[hop] at hc; simp[chk1] at hc
   ·exact hc
  rw[hop] at hcc
  simp only[zbl] at hcc
  split at hcc
  case h_2=>cases hcc
  rename_i f' args ts ho
  simp only[Bool.and_eq_true,beq_iff_eq] at hcc
  obtain⟨rfl,hxs⟩:=hcc
  obtain⟨hF,hcall⟩:=hf.2 M w (args.toList.map a.eval) rfl hr (zb6 hxs ht)
  have hrun:=zfj (P:=P) (w:=w) (a:=a) (caps:=#[]) ho rfl hF
  unfold Oper.wpIn
  refine⟨fun _ _=>trivial,?_⟩
  rw[zdo (by rw[ho]; simp),hrun]
  have hargs:args.map a.eval++#[]=(args.toList.map a.eval).toArray:=by apply Array.ext'; simp
  rw[hargs]
  refine⟨fun h=>by(cases h),zfk (hcall.mono ?_)⟩
  rintro en w' ⟨rv,M',rfl,he,hs,hi,hr'⟩
  exact fin _ _ _ _ hs hi hr' he rfl
 | vcall hw hop hfx hf _ =>
  rename_i ro fx xs f cap r H2
  rw[zcs hg ht hw,if_pos rfl]
  have hcc:zbl M.fm o.op s.op=true:=by
   rcases hc with hc|hc
   ·rw[hop] at hc; simp[chk1] at hc
   ·exact hc
  rw[hop] at hcc
  simp only[zbl] at hcc
  split at hcc
  case h_2=>cases hcc
  rename_i fo args ts ho
  simp only[Bool.and_eq_true] at hcc
  obtain⟨hfo,hxs⟩:=hcc
  have hfe:=zam hfo ht
  rw[hfx] at hfe
  simp only[Enc] at hfe
  obtain⟨caps,hfv,hcaps⟩:=hfe
  obtain⟨hF,hcall⟩:=hf.2 M w (args.toList.map a.eval++caps) rfl hr (zbs (zb6 hxs ht) hcaps)
  have hrun:=zfj (P:=P) (w:=w) (a:=a) (caps:=caps.toArray) ho hfv hF
  unfold Oper.wpIn
  refine⟨fun _ _=>trivial,?_⟩
  rw[zdo (by rw[ho]; simp),hrun]
  have hargs:args.map a.eval++caps.toArray=(args.toList.map a.eval++caps).toArray:=by apply Array.ext'; simp
  rw[hargs]
  refine⟨fun h=>by(cases h),zfk (hcall.mono ?_)⟩
  rintro en w' ⟨rv,M',rfl,he,hs,hi,hr'⟩
  obtain⟨s1,s2,s3⟩:=zce hr' H.length
  exact fin _ _ _ _ (hs.trans s1) (hi.trans s2 (Nat.le_refl _)) s3 (Enc.upto _ he) rfl
 | ycall hw hop hfx hb hxl ha hb1 hbo hb2 =>
  rename_i fx xs id e0 ps as bo e1 H1' f0 fps fas fbo x e2 H2 g0 gps gas gbo
  rw[zcs hg ht hw,if_pos rfl]
  have hcc:zbl M.fm o.op s.op=true:=by
   rcases hc with hc|hc
   ·rw[hop] at hc; simp[chk1] at hc
   ·exact hc
  rw[hop] at hcc
  simp only[zbl] at hcc
  split at hcc
  case h_2=>cases hcc
  rename_i fo args ts ho
  simp only[Bool.and_eq_true] at hcc
  obtain⟨hfo,hxs⟩:=hcc
  have hfe:=zam hfo ht
  rw[hfx] at hfe
  simp only[Enc] at hfe
  obtain⟨hal,hfv⟩:=hfe
  have hargs:=zb6 hxs ht
  have hlen:=zaj hargs
  simp only[List.length_map] at hlen
  obtain⟨l,hl⟩:∃ l,l=M.j id:=⟨_,rfl⟩
  have h0:=hr.rel id _ hb
  simp only[BRel] at h0
  obtain⟨hl0,r,hrec,hst,hps,hca,hcb,he0⟩:=h0
  have hlt:id<H.length:=(List.getElem?_eq_some_iff.1 hb).1
  have hsz:(args.map a.eval).size=r.params.size:=by
   have h1:=congrArg List.length hps.1
   have h2:args.size=xs.length:=by simpa using hlen
   simp at h1 ⊢
   omega
  have hrun:(execOp a.eval o).run P w=.ok (.round l r.fn ((r.params.zip (args.map a.eval)).foldl (fun tmps (t,a)=>tmps.setIfInBounds t a) r.tmps) r.assign r.body) w:=by
   have:=run_yield (P:=P) (l:=M.j id) (args:=args.map a.eval) hrec hsz
   rw[hl]
   simp[execOp,ho,resolve,hfv,Deferred.ofValue,invoke,this]
  obtain⟨tm,htm⟩:∃ tm,tm=(r.params.zip (args.map a.eval)).foldl (fun tmps (t,a)=>tmps.setIfInBounds t a) r.tmps:=⟨_,rfl⟩
  have htm2:tm=(ps.zip (args.toList.map a.eval)).foldl (fun(t:Array Value) (q:Nat×Value)=>t.setIfInBounds q.1 q.2) r.tmps:=by
   rw[htm,←Array.foldl_toList,Array.toList_zip,hps.1]; simp
  rw[←htm] at hrun
  obtain⟨hrel,hsize⟩:=zov (ps:=ps) (tmps:=r.tmps) hargs hps.2 (by simp[hxl]) (zqd he0)
  rw[←htm2] at hrel hsize
  unfold Oper.wpIn
  refine⟨fun _ _=>trivial,?_⟩
  rw[zdo (by rw[ho]; simp),hrun]
  refine⟨fun h=>by(cases h),?_⟩
  refine roundIn_of_wpIn (F:=FR ro) (n:=0) (l:=l) trivial ?_
  refine ha.2 l r.tmps.size r.assign M w _ _ hca ⟨hsize,⟨by simp,fun d hd=>by cases hd⟩,hrel,ht.glo⟩ hr rfl ?_
  intro a1 w1 M1 t1 r1 s1 i1 m1
  -- the round begins
  have hj1:M1.j id=l:=by rw[hl]; exact(i1 id hlt hal).2.1
  have h1:=r1.rel id _ hb1
  simp only[BRel] at h1
  obtain⟨_,rc1,hrec1,hst1,_⟩:=h1
  obtain⟨M2,s2,i2,r2,hj2⟩:=zk8 (st':=.busy) (r':={ rc1 with state:=.busy }) r1 hb1 hrec1 rfl rfl rfl rfl rfl
  rw[hj1] at hrec1 s2 r2
  refine⟨_,run_beginRound hrec1 hst1.1,?_⟩
  refine hbo.2 l r.tmps.size r.body M2 _ a1 _ hcb (RelT.step s2 r1 i2 t1) r2 (s2.fm.trans s1.fm) ?_
  intro a3 w3 M3 t3 r3 s3 i3 m3
  -- the round ends
  have hlt1:id<H1'.length:=(List.getElem?_eq_some_iff.1 hb1).1
  have hal1:M1.al id=true:=(i1 id hlt hal).1
  have hal2:=(i2 id hlt1 hal1)
  have hj3:M3.j id=l:=by rw[(i3 id (by simpa using hlt1) hal2.1).2.1,hj2]; exact hj1
  have h3:=r3.rel id _ hb2
  simp only[BRel] at h3
  obtain⟨_,rc3,hrec3,_⟩:=h3
  have hlen3:H.length≤H2.length:=by have:=ha.1; have:=hbo.1; simp at this; omega
  have fin2:∀(jump:Option Code) (st':LSt) (b:Bool),zq4 st' { rc3 with state:=if jump.isNone then .ready else .done,pending:=jump }→jump.isNone=b→decide (x=.nx)=b→(if x=.nx then LSt.ready else .done x)=st' →
    ∃ v w',(Instr.endRound l jump).run P w3=.ok v w'∧K (a.put o.dst v) w':=by
   intro jump st' b hok hb' hxb hst'
   obtain⟨M4,s4,i4,r4,_⟩:=zk8 (st':=st') (r':={ rc3 with state:=if jump.isNone then .ready else .done,pending:=jump }) r3 hb2 hrec3 rfl rfl rfl rfl hok
   rw[hj3] at s4 r4
   have hrec3':=hrec3
   rw[hj3] at hrec3'
   refine⟨_,_,run_endRound jump hrec3',?_⟩
   obtain⟨u1,u2,u3⟩:=zce r4 H.length
   rw[←hst'] at s4 r4 u1 u3
   refine fin _ (M4.upto H.length) (.bool jump.isNone) (.bool (decide (x=.nx))) ((((s1.trans s2).trans s3).trans s4).trans u1) ?_ u3 (by simp only[Enc]; rw[hb',hxb]) rfl
   have e2:=ha.1
   have e3:=hbo.1
   simp only[List.length_set] at e3
   exact(((i1.trans i2 e2).trans i3 (by simp only[List.length_set]; exact e2)).trans i4 hlen3).trans u2 (Nat.le_refl _)
  cases x with
  | nx=>exact fin2 none .ready true ⟨rfl,rfl⟩ rfl rfl rfl
  | ret=>exact fin2 (some .ret) (.done .ret) false ⟨rfl,rfl⟩ rfl rfl rfl
  | exit k=>exact fin2 (some (.exit k)) (.done (.exit k)) false ⟨rfl,rfl⟩ rfl rfl rfl
theorem zkI{sz id off:Nat}{ag:Bool}{v:V}(h:loadAt H sz ag id off=some (v,H1)):H1=H:=by
 unfold loadAt at h
 repeat' split at h
 all_goals first
  | (cases h; done)
  | (rw[Option.map_eq_some_iff] at h; obtain⟨_,_,h⟩:=h; cases h; rfl)
theorem zkJ{sz id off:Nat}{u v:V}(h:storeAt H sz id off u=some (v,H1)):∃ cs,H1=H.set id (some (.cells cs)):=by
 unfold storeAt at h
 repeat' split at h
 all_goals first
  | (cases h; done)
  | (cases h; exact⟨_,rfl⟩)
theorem zvQ{base:Nat}{e:Env}{s:SOp}{v:V}(h:ev1 base e H s=some (v,H1)):H1.length=H.length:=by
 cases s<;>simp only[ev1] at h
 case loadR =>
  repeat' split at h
  all_goals first
   | (cases h; done)
   | rw[zkI h]
 case storeA|storeN =>
  repeat' split at h
  all_goals first
   | (cases h; done)
   | (obtain⟨cs,h⟩:=zkJ h; rw[h]; simp)
 all_goals first
  | (cases h; rfl)
  | (repeat' split at h)<;>first
   | (cases h; done)
   | (cases h; rfl)
   | (cases h; simp; done)
   | (rw[Option.map_eq_some_iff] at h; obtain⟨_,_,h⟩:=h; cases h; rfl)
 all_goals first
  | (rw[Option.map_eq_some_iff] at h; obtain⟨_,_,h⟩:=h; cases h; rfl)
theorem SS.len{base:Nat}{s:SOper}{e e1:Env}(h:SS P fm base s e H e1 H1):H.length≤H1.length:=by
 cases h with
 | ev _ hv=>exact Nat.le_of_eq (zvQ hv).symm
 | skip=>exact Nat.le_refl _
 | pcall=>exact Nat.le_refl _
 | scallE _ _ hf _=>simp only[zad,List.length_map,List.length_take]; exact Nat.le_of_eq (Nat.min_eq_left hf.1).symm
 | scallA _ _ hf _=>simp only[zad,List.length_map,List.length_take]; exact Nat.le_of_eq (Nat.min_eq_left hf.1).symm
 | scall _ _ hf=>simp only[zad,List.length_map,List.length_take]; exact Nat.le_of_eq (Nat.min_eq_left hf.1).symm
 | kcall _ _ hf _=>exact hf.1
 | vcall _ _ _ hf=>simp only[zad,List.length_map,List.length_take]; exact Nat.le_of_eq (Nat.min_eq_left hf.1).symm
 | ycall _ _ _ _ _ ha _ hb _ =>
  have e2:=ha.1
  have e3:=hb.1
  simp only[List.length_set] at e3
  simp only[zad,List.length_map,List.length_take,List.length_set]; exact Nat.le_of_eq (Nat.min_eq_left (Nat.le_trans e2 e3)).symm
end Go.Ev
