/- Append, slice expressions, composite literals. -/
import Derived.Test.YtogjnjnabikdpaaGreatDoorEvAW
import Derived.Laws.StructEq
import Derived.Laws.RangeAny
import Derived.ChangeKeysEq
import Derived.MapKept
import Derived.Lib.OthersKept
import Derived.Carry
set_option linter.unusedSimpArgs false
set_option linter.unusedVariables false
namespace Go.Ev
open Go Go.RowKit
variable {P:Program} {M M':Mm} {H H1:Heap} {w w':World}
variable {e:Env} {a:Act} {n:Nat} {o:Oper} {v:V}
theorem zaY{es:List (List V)}{sz:Nat}(h:∀ e∈es,e.length=sz):es.flatten.length=es.length*sz:=by
 induction es with
 | nil=>simp
 | cons e es ih=>simp only[List.flatten_cons,List.length_append,ih (fun d hd=>h d (by simp[hd])),h e (by simp),List.length_cons,Nat.add_mul,Nat.one_mul]; omega
theorem zeL{b off:Nat}{es:List (List V)}(h:zao M w b es off):∃ xs:List Value,EncL M w es.flatten xs∧w.rangeAt b off xs:=zjg (zdS.1 h)
theorem zjh{b:Nat}{xs:List Value}:∀{es:List (List V)} {off:Nat},EncL M w es.flatten xs→w.rangeAt b off xs→(∀ i,i<xs.length→Rd M b (off+i))→zao M w b es off:=by
 intro es off h1 h2 h3
 rw[zdS]
 refine zcM fun i c hc=>?_
 obtain⟨x,hx,he⟩:=zaN h1 hc
 exact⟨x,h2 i x hx,h3 i (List.getElem?_eq_some_iff.1 hx).1,he⟩
theorem zoo{cs:List V}{xs:List Value}(h:EncL M w cs xs)(hs:∀ c∈cs,c.scal=true):∀ u∈xs,u.oneCell'=true:=by
 intro u hu
 obtain⟨i,hi⟩:=List.getElem?_of_mem hu
 have hil:i<cs.length:=by rw[←zaj h]; exact(List.getElem?_eq_some_iff.1 hi).1
 obtain⟨x',hx1,hx2⟩:=zaN h (List.getElem?_eq_getElem hil)
 rw[hi] at hx1; cases hx1
 exact zmi hx2 (hs _ (List.getElem_mem hil))
theorem zsi{c:V}{fs:List (List V)}{x:Value}{t:TypeId}{sz:Nat}(hu:(∃ el,P.underlying t=some (.slice el))∨P.underlying t=some .string)(h:Enc M w c x)(hc:c.elems?=some fs)(hs:∀ f∈fs,f.length=sz) :
  ∃ news,Src P sz t x fs.length news w∧EncL M w fs.flatten news:=by
 cases c<;>simp only[V.elems?,Option.some.injEq,reduceCtorEq] at hc<;>subst hc
 case vs fs tk =>
  simp only[Enc] at h
  obtain⟨hp,ad,cap,rfl,hle,hrows,_⟩:=h
  cases ad with
  | none =>
   obtain⟨rfl,rfl⟩:=hrows
   exact⟨[],⟨hu,fun _=>rfl,run_firstCells_none w sz 0 0 0,run_firstCells_none w.drew sz 0 0 0,by simp,fun _ h=>by cases h⟩,by simp only[List.flatten_nil,EncL]⟩
  | some ad =>
   obtain⟨b,off,sp⟩:=ad
   obtain⟨hsp,_,hrows⟩:=hrows
   by_cases hfs:fs=[]
   ·subst hfs
    exact⟨[],⟨hu,fun _=>rfl,run_firstCells_some w sz 0 ⟨b,off,sp⟩ 0 cap [] (by simp) (fun j u hu=>by simp at hu),run_firstCells_some w.drew sz 0 ⟨b,off,sp⟩ 0 cap [] (by simp) (fun j u hu=>by simp at hu),by simp,by simp⟩,
     by simp only[List.flatten_nil,EncL]⟩
   have hsp:=hsp.resolve_left hfs
   simp only at hsp hrows
   subst hsp
   obtain⟨xs,h1,h2⟩:=zeL hrows
   have hl:xs.length=fs.length*sz:=by rw[zaj h1,zaY hs]
   have hcell:∀ j u,xs[j]?=some u→w.cell? ((⟨b,off,none⟩:Addr).add j)=some u:=fun j u hu=>by rw[Addr.add_mid]; exact h2 j u hu
   refine⟨xs,⟨hu,fun _=>rfl,run_firstCells_some w sz fs.length ⟨b,off,none⟩ fs.length cap xs hl hcell,run_firstCells_some w.drew sz fs.length ⟨b,off,none⟩ fs.length cap xs hl (by simpa using hcell),hl,zoo h1 fun c hc=>?_⟩,h1⟩
   obtain⟨f,hf,hc⟩:=List.mem_flatten.1 hc
   exact V.scal_of_pure (hp f hf c hc)
 case str s =>
  simp only[Enc] at h
  subst h
  have hlen:(zc0 s).length=s.length:=by simp[zc0]
  have hsz:(ByteArray.mk s.toArray).size=s.length:=by simp[ByteArray.size]
  by_cases hs0:s=[]
  ·subst hs0
   refine⟨[],⟨hu,fun _=>rfl,?_,?_,by simp[zc0],fun _ h=>by cases h⟩,by simp only[zc0,List.map_nil,List.flatten_nil,EncL]⟩<;>simp[Builtin.firstCells,zc0]<;>rfl
  ·have h1:sz=1:=by
    cases s with
    | nil=>exact absurd rfl hs0
    | cons b s=>have:=hs [V.int .u8 b.toNat] (by simp[zc0]); simpa using this.symm
   subst h1
   refine⟨byteCells ⟨s.toArray⟩,?_,?_⟩
   ·rw[hlen,←hsz]
    exact⟨hu,fun _=>rfl,firstCells_string _ w,firstCells_string _ w.drew,by rw[byteCells_length,Nat.mul_one],fun u hu=>by obtain⟨_,_,rfl⟩:=List.mem_map.1 hu; rfl⟩
   ·have hfl:(zc0 s).flatten=s.map fun b=>V.int .u8 b.toNat:=by
     clear hs hlen hsz hs0
     induction s with
     | nil=>rfl
     | cons b s ih=>simp only[zc0,List.map_cons,List.flatten_cons] at ih ⊢; rw[ih]; rfl
    rw[hfl]
    refine zcl (by simp[byteCells]) fun i c x hc hx=>?_
    simp only[byteCells,List.getElem?_map,Option.map_eq_some_iff] at hc hx
    obtain⟨b,hb,rfl⟩:=hc
    obtain⟨b',hb',rfl⟩:=hx
    rw[hb] at hb'; cases hb'
    simp only[Enc]
theorem zq6{c:V}{fs:List (List V)}{x:Value}(h:Enc M w c x)(hc:c.elems?=some fs):∀ f∈fs,∀ d∈f,d.pure=true:=by
 cases c<;>simp only[V.elems?,Option.some.injEq,reduceCtorEq] at hc<;>subst hc
 case vs=>simp only[Enc] at h; exact h.1
 case str =>
  intro f hf d hd
  obtain⟨b,_,rfl⟩:=List.mem_map.1 hf
  simp at hd; subst hd; rfl
def zq7(P:Program)(t t':TypeId)(sz bytes:Nat):Bool :=
 match elemOf? P t,(elemOf? P t').isSome||zgu P t' with
 | some el,true=>match P.info? el with
  | some i=>i.size==sz&&i.bytes==bytes&&decide (0<sz)&&decide (0<bytes)&&(match i.zero with|some z=>z.cells.size==sz|none=>false)
  | none=>false
 | _,_=>false
theorem zlC(z:Array Value)(k:Nat):(Builtin.zeroCells z k).size=k*z.size:=by simp[Builtin.zeroCells]
theorem zi2(w:World)(t tx ty el:TypeId)(i:TypeInfo)(ht:P.underlying t=some (.slice el))(hi:P.info? el=some i)(b sLen sCap:Nat)(xs:Array Value)(te:TypeId)
  (hh:w.heap[b]?=some (.cells xs te (0,0))) (x:Value) (k:Nat) (news:List Value) (hs:Src P i.size tx x k news w) (hroom:sLen+k≤sCap) (hfit:sLen*i.size+news.length≤xs.size) :
  (Builtin.append_ #[t,tx] ty #[.slice (some ⟨b,0,none⟩) sLen sCap,x]).run P w =
   .ok (.slice (some ⟨b,0,none⟩) (sLen+k) sCap) (w.setRow b (xs.toList.take (sLen*i.size)++news++xs.toList.drop (sLen*i.size+news.length)).toArray):=by
 have hst:=run_storeCells_at P b (sLen*i.size) te news 0 xs w hh (by simpa using hfit) hs.one
 simp only[Nat.add_zero] at hst
 rcases hs.kind with⟨e',hk⟩|hk<;>simp[Builtin.append_,run_underlying ht,run_underlying hk,sizeOf,typeInfo,hi,hs.len,hroom,hs.cells,Addr.add_lit,hst]
theorem zwV{t t':TypeId}{x y:Operand}{sx sy:X}{base s sz bytes:Nat}(ho:o.op=.call { callee:=.builtin .append,args:=#[x,y],argTypes:=#[t,t'] })
  (hx:chkX M.fm x sx=true) (hy:chkX M.fm y sy=true) (hok:zq7 P t t' sz bytes=true) (ht:RelT M w e a n) (hr:HRel M w H)
  (hv:ev1 base e H (.app s sz bytes sx sy)=some (v,H1)):OpOk P o a M H w v H1:=by
 have hx':=zam hx ht
 have hy':=zam hy ht
 unfold zq7 at hok
 split at hok
 case h_2=>cases hok
 rename_i el hel hel'
 have hu:=elemOf?_some hel
 have hu':(∃ el,P.underlying t'=some (.slice el))∨P.underlying t'=some .string:=by
  simp only[Bool.or_eq_true] at hel'
  rcases hel' with h|h
  ·obtain⟨el',h⟩:=Option.isSome_iff_exists.1 h; exact .inl ⟨_,elemOf?_some h⟩
  ·exact .inr (zb7 h)
 split at hok
 case h_2=>cases hok
 rename_i i hi
 simp only[Bool.and_eq_true,beq_iff_eq,decide_eq_true_eq] at hok
 obtain⟨⟨⟨⟨hsz,hby⟩,hpos⟩,hbpos⟩,hz⟩:=hok
 split at hz
 case h_2=>cases hz
 rename_i z hzero
 simp only[beq_iff_eq] at hz
 have hex:∀ r w',(Builtin.append_ #[t,t'] o.type #[a.eval x,a.eval y]).run P w=.ok r w'→(execOp a.eval o).run P w=.ok (.value r) w':=by
  intro r w' h
  simp only[execOp,ho,resolve,invoke,builtin,Sem.run_bind,Sem.run_pure,Result.andThen_ok,List.map_toArray,List.map_cons,List.map_nil,h]
 simp only[ev1] at hv
 split at hv
 case h_2=>cases hv
 rename_i es tk fs hp hq
 rw[hp] at hx'
 split at hv
 ·rename_i hfs
  cases hv
  subst hfs
  obtain⟨news,hsrc,hn⟩:=zsi (sz:=sz) hu' hy' hq (by simp)
  simp only[List.flatten_nil,EncL] at hn
  subst hn
  have hx2:=hx'
  simp only[Enc] at hx2
  obtain⟨_,ad,cap,hxe,hle,_⟩:=hx2
  have:=run_append_nothing (P:=P) w t t' o.type el i hu hi ad es.length cap hle (a.eval y) (by rw[hsz]; exact hsrc)
  rw[←hxe] at this
  exact .plain hr (hex _ _ this) hx'
 rename_i hfs
 split at hv
 case isFalse=>cases hv
 rename_i hg
 obtain⟨hbound,hfl,hes⟩:=hg
 obtain⟨news,hsrc,hnews⟩:=zsi (sz:=sz) hu' hy' hq hfl
 have hnl:news.length=fs.length*sz:=by rw[zaj hnews,zaY hfl]
 have hpf:=zq6 hy' hq
 have hx2:=hx'
 simp only[Enc] at hx2
 obtain⟨hpu,ad,cap,hxe,hle,hrows,htk⟩:=hx2
 have hfpos:0<fs.length:=List.length_pos_iff.2 hfs
 have hpure:∀ e∈es++fs,∀ c∈e,c.pure=true:=by
  intro d hd c hc
  simp only[List.mem_append] at hd
  rcases hd with hd|hd
  ·exact hpu d hd c hc
  ·exact hpf d hd c hc
 have hall:∀ e∈es++fs,e.length=sz:=by
  intro d hd
  simp only[List.mem_append] at hd
  rcases hd with hd|hd
  ·exact hes d hd
  ·exact hfl d hd
 -- the old cells
 have hold:∃ olds:List Value,EncL M w es.flatten olds∧(Builtin.firstCells i.size es.length (.slice ad es.length cap)).run P w.drew=.ok olds.toArray w.drew:=by
  cases ad with
  | none =>
   obtain⟨he0,_⟩:=hrows
   subst he0
   exact⟨[],by simp only[List.flatten_nil,EncL],by simp[Builtin.firstCells]⟩
  | some ad =>
   obtain⟨b,off,sp⟩:=ad
   obtain⟨hsp,_,hrows⟩:=hrows
   by_cases hes0:es=[]
   ·subst hes0
    exact⟨[],by simp only[List.flatten_nil,EncL],run_firstCells_some w.drew i.size 0 ⟨b,off,sp⟩ 0 cap [] (by simp) (fun j u hu=>by simp at hu)⟩
   have hsp:=hsp.resolve_left hes0
   simp only at hsp hrows
   subst hsp
   obtain⟨xs,h1,h2⟩:=zeL hrows
   refine⟨xs,h1,?_⟩
   exact run_firstCells_some w.drew i.size es.length ⟨b,off,none⟩ es.length cap xs (by rw[zaj h1,zaY hes,hsz]) (fun j u hu=>by
    rw[Addr.add_mid]
    exact h2 j u hu)
 obtain⟨olds,holdE,holdR⟩:=hold
 have hol:olds.length=es.length*sz:=by rw[zaj holdE,zaY hes]
 -- what a new array comes to
 have grown:∀ id,(zaJ H id=true∨∃ k,H[id]?=some (some (.zone k)))→(M.al id=true→(M.z id).n<es.length+fs.length)→cap<es.length+fs.length →
   (execOp a.eval o).run P w=.ok (.value (.slice (some ⟨w.heap.size,0,none⟩) (es.length+fs.length) (grownCap w (es.length+fs.length) cap el)))
    (w.drew.alloc (.cells ((olds++news).toArray++Builtin.zeroCells z.cells (grownCap w (es.length+fs.length) cap el-(es.length+fs.length))) el)) →
   OpOk P o a M H w (.vs (es++fs) (.own id)) (H.set id (some (.zone (es.length+fs.length)))):=by
  intro id hid hlt _ hrun
  have hge:=grownCap_ge w (es.length+fs.length) cap el
  generalize hC:grownCap w (es.length+fs.length) cap el=C at hge hrun
  have hnewc:(w.drew.alloc (.cells ((olds++news).toArray++Builtin.zeroCells z.cells (C-(es.length+fs.length))) el)).heap[w.heap.size]? =
    some (.cells ((olds++news).toArray++Builtin.zeroCells z.cells (C-(es.length+fs.length))) el (0,0)):=heap_alloc_new w.drew _
  have g:=(Grew.drew w).trans (Grew.alloc w.drew (.cells ((olds++news).toArray++Builtin.zeroCells z.cells (C-(es.length+fs.length))) el))
  obtain⟨st,ii,r⟩:=zkZ (w':=w.drew.alloc (.cells ((olds++news).toArray++Builtin.zeroCells z.cells (C-(es.length+fs.length))) el)) (z:=⟨es.length+fs.length,some w.heap.size,C,sz⟩) hr hid g.os g.tape g.output g.size
   (fun b hb _=>g.block b hb)
   (fun b l k hb _ _=>g.cell (hr.owned_lt ⟨id,hb⟩))
   (fun b hb=>by simp only[Option.some.injEq] at hb; omega)
   (fun b l hb hb2 _=>by simp only[Option.some.injEq] at hb2; have:=hr.owned_lt ⟨id,hb⟩; omega)
   (fun ha=>⟨by have:=hlt ha; simp only; omega,fun h=>by have:=hlt ha; simp only at h; omega⟩)
   (by
    refine⟨by simp only; omega,hge,hpos,_,_,hnewc,?_⟩
    simp only[Array.size_append,List.size_toArray,List.length_append,zlC,hz,hol,hnl,←Nat.add_mul]
    congr 1
    omega)
  refine⟨_,_,_,hrun,?_,st,ii,r⟩
  simp only[Enc]
  refine⟨hpure,some ⟨w.heap.size,0,none⟩,C,by simp,by simpa using hge,⟨.inr rfl,⟨sz,hall⟩,?_⟩,?_⟩
  ·have he1:=EncL.step st hr ii (zbs holdE hnews)
   rw[←List.flatten_append] at he1
   refine zjh he1 ?_ ?_
   ·intro j u hu
    have hj:j<(olds++news).length:=(List.getElem?_eq_some_iff.1 hu).1
    rw[cell_of_row _ w.heap.size (0+j) _ el (0,0) hnewc]
    rw[Nat.zero_add,Array.getElem?_append]
    rw[if_pos (by simpa using hj)]
    simpa using hu
   ·intro j hj l hl
    simp only[Mm.zon,if_true,Option.some.injEq] at hl
    subst hl
    simp only[List.length_append,hol,hnl,←Nat.add_mul] at hj
    simp only[Nat.zero_add]
    exact hj
  ·simp only[TkOk,Mm.zon,decide_true,Bool.true_or,if_true,true_and,List.length_append]
   exact⟨Nat.le_refl _,fun _=>hall⟩
 have hgrow:cap<es.length+fs.length→Builtin.nextslicecap (es.length+fs.length) cap*i.bytes≤281474976710656 →
   (execOp a.eval o).run P w=.ok (.value (.slice (some ⟨w.heap.size,0,none⟩) (es.length+fs.length) (grownCap w (es.length+fs.length) cap el)))
    (w.drew.alloc (.cells ((olds++news).toArray++Builtin.zeroCells z.cells (grownCap w (es.length+fs.length) cap el-(es.length+fs.length))) el)):=by
  intro hc hfit
  refine hex _ _ ?_
  have:=run_append_grow_src (P:=P) w t t' o.type el i z hu hi hzero ad es.length cap olds holdR (a.eval y) fs.length news (by rw[hsz]; exact hsrc) hc (by
   have:=Nat.le_mul_of_pos_right (es.length+fs.length) hbpos
   omega) hfit
  rw[←hxe] at this
  exact this
 have hfit:cap<es.length+fs.length→Builtin.nextslicecap (es.length+fs.length) cap*i.bytes≤281474976710656:=fun h=>growslice_fits h (by rw[hby]; exact hbound)
 cases tk with
 | no=>cases hv
 | full =>
  simp only at hv
  split at hv
  case isFalse=>cases hv
  rename_i hf
  cases hv
  simp only[TkOk] at htk
  have hc:cap<es.length+fs.length:=by omega
  exact grown _ (.inl hf) (fun ha=>by rw[zmj hr hf] at ha; cases ha) hc (hgrow hc (hfit hc))
 | own q =>
  simp only at hv
  split at hv
  case h_2=>cases hv
  rename_i k hq
  split at hv
  case isFalse=>cases hv
  rename_i hk
  cases hv
  subst hk
  simp only[TkOk] at htk
  obtain⟨hal,_,htk⟩:=htk
  have hb:=hr.rel q _ hq
  simp only[BRel] at hb
  obtain⟨hzn,hb⟩:=hb
  obtain⟨hcap,htk⟩:=htk hzn.symm
  cases hbk:(M.z q).blk with
  | none =>
   simp only[hbk] at hb htk
   have hc:cap<es.length+fs.length:=by omega
   exact grown q (.inr ⟨_,hq⟩) (fun _=>by omega) hc (hgrow hc (hfit hc))
  | some b =>
   simp only[hbk] at hb htk
   obtain⟨hn0,hn1,hn2,hlim,xs,te,hh,hxs⟩:=hb
   obtain⟨rfl,hzs⟩:=htk
   by_cases hroom:es.length+fs.length≤cap
   ·-- in place
    have hzsz:(M.z q).sz=sz:=by
     cases hee:es with
     | nil=>rw[hee] at hn0; simp at hn0
     | cons e0 es0=>rw[←hzs e0 (by simp[hee]),hes e0 (by simp[hee])]
    have hroom':es.length*sz+fs.length*sz≤(M.z q).cap*sz:=by rw[←Nat.add_mul]; exact Nat.mul_le_mul_right _ (by omega)
    rw[hzsz] at hxs hlim
    have hrun:=zi2 (P:=P) w t t' o.type el i hu hi b es.length cap xs te hh (a.eval y) fs.length news (by rw[hsz]; exact hsrc) hroom (by rw[hsz,hnl,hxs]; exact hroom')
    rw[←hxe] at hrun
    rw[hsz] at hrun
    have hnewh:=setRow_heap w b xs (xs.toList.take (es.length*sz)++news++xs.toList.drop (es.length*sz+news.length)).toArray te (0,0) hh
    generalize hY:(xs.toList.take (es.length*sz)++news++xs.toList.drop (es.length*sz+news.length)).toArray=ys at hrun hnewh
    have hyget:∀ j,j<es.length*sz→ys[j]?=xs[j]?:=by
     intro j hj
     rw[←hY]
     simp only[List.getElem?_toArray,List.append_assoc]
     rw[List.getElem?_append_left (by simp; omega),List.getElem?_take,if_pos hj]
     simp
    have hblo:blOf M H q=some b:=by simp[blOf,hq,hbk]
    have hoth:∀ k,k≠b→(w.setRow b ys).heap[k]?=w.heap[k]?:=fun k hk=>setRow_other w b k ys (fun e=>hk e)
    have hcellb:∀ j,j<es.length*sz→(w.setRow b ys).cell? ⟨b,j,none⟩=w.cell? ⟨b,j,none⟩:=by
     intro j hj
     rw[cell_of_row _ b j _ te (0,0) hnewh,cell_of_row _ b j _ te (0,0) hh,hyget j hj]
    obtain⟨st,ii,r⟩:=zkZ (w':=w.setRow b ys) (z:=⟨es.length+fs.length,some b,cap,sz⟩) hr (.inr ⟨_,hq⟩) rfl rfl rfl (by simp[World.setRow])
     (fun k _ hne=>hoth k (fun e=>hne (by rw[hblo,e])))
     (fun k l j hk hl hj=>by
      rw[hblo] at hk; cases hk
      rw[hlim] at hl; cases hl
      exact hcellb j hj)
     (fun k hk=>by simp only[Option.some.injEq] at hk; subst hk; exact .inr hblo)
     (fun k l hk _ hl=>by
      rw[hblo] at hk; cases hk
      rw[hlim] at hl; cases hl
      exact Nat.mul_le_mul_right _ (by simp only; omega))
     (fun _=>⟨by simp only; omega,fun h=>by simp only at h; omega⟩)
     ⟨by simp only; omega,hroom,hpos,ys,te,hnewh,by
      have hx3:xs.toList.length=cap*sz:=by rw[Array.length_toList,hxs,hcap]
      rw[←hcap] at hroom'
      rw[←hY]
      simp only[List.size_toArray,List.length_append,List.length_take,List.length_drop,hx3,hnl]
      rw[Nat.min_eq_left (by omega)]
      omega⟩
    refine⟨_,_,_,hex _ _ hrun,?_,st,ii,r⟩
    simp only[Enc]
    refine⟨hpure,some ⟨b,0,none⟩,cap,by simp,by simpa using hroom,⟨.inr rfl,⟨sz,hall⟩,?_⟩,?_⟩
    ·rw[zfb]
     refine⟨?_,?_⟩
     ·have:=hrows.2.2
      exact zao.step st hr ii this
     ·rw[zaY hes]
      refine zjh (EncL.step st hr ii hnews) ?_ ?_
      ·intro j u hu
       have hj:j<news.length:=(List.getElem?_eq_some_iff.1 hu).1
       rw[cell_of_row _ b _ _ te (0,0) hnewh,←hY]
       simp only[List.getElem?_toArray,Nat.zero_add]
       have hlt:(xs.toList.take (es.length*sz)).length=es.length*sz:=by
        have hx3:xs.toList.length=(M.z q).cap*sz:=by rw[Array.length_toList,hxs]
        rw[List.length_take,hx3]
        exact Nat.min_eq_left (by omega)
       rw[List.append_assoc,List.getElem?_append_right (by rw[hlt]; omega),hlt,Nat.add_sub_cancel_left,List.getElem?_append_left hj]
       exact hu
      ·intro j hj l hl
       simp only[Mm.zon,if_true,Option.some.injEq] at hl
       subst hl
       rw[hnl] at hj
       simp only[Nat.add_mul,Nat.zero_add]
       omega
    ·simp only[TkOk,Mm.zon,decide_true,Bool.true_or,if_true,true_and,List.length_append]
     exact⟨Nat.le_refl _,fun _=>hall⟩
   ·have hc:cap<es.length+fs.length:=by omega
    exact grown q (.inr ⟨_,hq⟩) (fun _=>by omega) hc (hgrow hc (hfit hc))
end Go.Ev
/- Slice expressions, composite literals. -/
namespace Go.Ev
open Go Go.RowKit
variable {P:Program} {M M':Mm} {H H1:Heap} {w w':World}
variable {e:Env} {a:Act} {n:Nat} {o:Oper} {v:V}
theorem intOf?_some{c:V}{k:Int}(h:intOf? c=some k):∃ kd,c=.int kd k:=by
 cases c<;>simp_all [intOf?]
theorem zhn{oo:Option Operand}{xx:Option X}(h:zbh M.fm oo xx=true)(ht:RelT M w e a n):∀ x,xx=some x→∀ k,intOf? (x.ev e)=some k→∃ u kd,oo=some u∧a.eval u=.int kd k:=by
 intro x hx k hk
 subst hx
 unfold zbh at h
 split at h
 ·cases ‹some x=none›
 ·rename_i u y hy
  cases hy
  obtain⟨kd,hc⟩:=intOf?_some hk
  have:=zam h ht
  rw[hc] at this
  simp only[Enc] at this
  exact⟨u,kd,rfl,this⟩
 ·cases h
theorem zir{oo:Option Operand}{xx:Option X}(h:zbh M.fm oo xx=true)(hx:xx=none):oo=none:=by
 subst hx
 unfold zbh at h
 split at h<;>simp_all
theorem zgv{isS:Bool}{len cap l h:Nat}{m:Bool}{lo hi mx:Option Operand}{slo shi smx:Option X}(hlo:zbh M.fm lo slo=true)(hhi:zbh M.fm hi shi=true)(hmx:zbh M.fm mx smx=true)
  (ht:RelT M w e a n) (hb:zbB e len slo shi smx=some (l,h,m)) (hle:len≤cap) :
  l≤h∧h≤len∧(m=false→(smx=none∧(shi=none→h=len))) ∧
  (Instr.sliceBounds isS len cap (lo.map a.eval) (hi.map a.eval) (mx.map a.eval)).run P w=.ok (l,h,if m then h else cap) w:=by
 unfold zbB at hb
 simp only at hb
 split at hb
 case h_2=>cases hb
 rename_i l' h' m' hl hh hm
 split at hb
 case isFalse=>cases hb
 rename_i hc
 obtain⟨h1,h2,h3,h4,h5⟩:=hc
 simp only[Option.some.injEq,Prod.mk.injEq] at hb
 obtain⟨rfl,rfl,rfl⟩:=hb
 have lowR:∀(y:Nat) (code:BoundsCode),h'.toNat≤y→∀ u,lo=some u→(Instr.sliceBound (a.eval u) y code).run P w=.ok l'.toNat w:=by
  intro y code hy u hu
  cases hs:slo with
  | none=>have:=zir hlo hs; rw[this] at hu; cases hu
  | some x =>
   simp only[hs] at hl
   obtain⟨u',kd,hu',hk⟩:=zhn hlo ht x hs l' hl
   rw[hu] at hu'; cases hu'
   rw[hk]
   exact run_sliceBound (P:=P) w kd l' y code h1 (by omega)
 have highR:∀(y:Nat) (code:BoundsCode),h'.toNat≤y→∀ u,hi=some u→(Instr.sliceBound (a.eval u) y code).run P w=.ok h'.toNat w:=by
  intro y code hy u hu
  cases hs:shi with
  | none=>have:=zir hhi hs; rw[this] at hu; cases hu
  | some x =>
   simp only[hs] at hh
   obtain⟨u',kd,hu',hk⟩:=zhn hhi ht x hs h' hh
   rw[hu] at hu'; cases hu'
   rw[hk]
   exact run_sliceBound (P:=P) w kd h' y code (by omega) (by omega)
 refine⟨by omega,by omega,?_,?_⟩
 ·intro hmf
  cases m' with
  | some v=>simp at hmf
  | none =>
   cases hs:smx with
   | none=>exact⟨rfl,fun hhn=>by simp only[hhn,Option.some.injEq] at hh; omega⟩
   | some x =>
    simp only[hs,Option.map_eq_some_iff] at hm
    obtain⟨_,_,hm⟩:=hm
    cases hm
 ·cases hmo:mx with
  | some um =>
   -- a third index
   cases hs:smx with
   | none=>have:=zir hmx hs; rw[this] at hmo; cases hmo
   | some x =>
    simp only[hs,Option.map_eq_some_iff] at hm
    obtain⟨k,hk,hm⟩:=hm
    subst hm
    obtain⟨u',kd,hu',hke⟩:=zhn hmx ht x hs k hk
    rw[hmo] at hu'; cases hu'
    have hkh:k=h':=h4 k rfl
    subst hkh
    have hsh:shi.isSome=true:=h5 (by simp[hs])
    obtain⟨xh,hxh⟩:=Option.isSome_iff_exists.1 hsh
    simp only[hxh] at hh
    obtain⟨uh,kh,huh,hkh⟩:=zhn hhi ht xh hxh k hh
    have hm1:=fun code=>run_sliceBound (P:=P) w kd k cap code (by omega) (by omega)
    have hh1:=highR k.toNat .slice3B (Nat.le_refl _) uh huh
    cases hlo':lo with
    | none =>
     have:slo=none:=by
      cases hss:slo with
      | none=>rfl
      | some x=>simp[hlo',hss,zbh] at hlo
     simp only[this,Option.some.injEq] at hl
     subst hl
     simp[Instr.sliceBounds,huh,hke,hm1,hh1]
    | some ul =>
     have hl1:=lowR k.toNat .slice3C (Nat.le_refl _) ul hlo'
     simp[Instr.sliceBounds,huh,hke,hm1,hh1,hl1]
  | none =>
   have hsm:smx=none:=by
    cases hss:smx with
    | none=>rfl
    | some x=>simp[hmo,hss,zbh] at hmx
   simp only[hsm,Option.some.injEq] at hm
   subst hm
   cases hhi':hi with
   | none =>
    have hsh:shi=none:=by
     cases hss:shi with
     | none=>rfl
     | some x=>simp[hhi',hss,zbh] at hhi
    simp only[hsh,Option.some.injEq] at hh
    subst hh
    cases hlo':lo with
    | none =>
     have:slo=none:=by
      cases hss:slo with
      | none=>rfl
      | some x=>simp[hlo',hss,zbh] at hlo
     simp only[this,Option.some.injEq] at hl
     subst hl
     simp[Instr.sliceBounds]
    | some ul =>
     have hl1:=lowR len .sliceB (by omega) ul hlo'
     simp[Instr.sliceBounds,hl1]
   | some uh =>
    have hh1:=fun code=>highR cap code (by omega) uh hhi'
    cases hlo':lo with
    | none =>
     have:slo=none:=by
      cases hss:slo with
      | none=>rfl
      | some x=>simp[hlo',hss,zbh] at hlo
     simp only[this,Option.some.injEq] at hl
     subst hl
     simp[Instr.sliceBounds,hh1]
    | some ul =>
     have hl1:=lowR h'.toNat .sliceB (Nat.le_refl _) ul hlo'
     simp[Instr.sliceBounds,hh1,hl1]
theorem zpB{b off l k sz:Nat}{es:List (List V)}(h:zao M w b es off)(hs:∀ e∈es,e.length=sz)(hl:l≤es.length):zao M w b ((es.drop l).take k) (off+l*sz):=by
 have h1:zao M w b (es.drop l) (off+l*sz):=by
  have h2:=h
  rw[←List.take_append_drop l es,zfb] at h2
  have:(es.take l).flatten.length=l*sz:=by
   rw[zaY (sz:=sz) (fun e he=>hs e (List.mem_of_mem_take he)),List.length_take,Nat.min_eq_left hl]
  rw[this] at h2
  exact h2.2
 rw[←List.take_append_drop k (es.drop l),zfb] at h1
 exact h1.1
theorem zwW{t el:TypeId}{x:Operand}{sx:X}{lo hi mx:Option Operand}{slo shi smx:Option X}{base sz:Nat}{i:TypeInfo}(ho:o.op=.slice t x lo hi mx)(hx:chkX M.fm x sx=true)
  (hu0:elemOf? P t=some el) (hi':P.info? el=some i) (hsz:i.size=sz) (hlo:zbh M.fm lo slo=true) (hhi:zbh M.fm hi shi=true) (hmx:zbh M.fm mx smx=true)
  (ht:RelT M w e a n) (hr:HRel M w H) (hv:ev1 base e H (.slc sz sx slo shi smx)=some (v,H1)):OpOk P o a M H w v H1:=by
 have hx':=zam hx ht
 have hu:=elemOf?_some hu0
 have hrun:∀(ad:Option Addr) (len cap l h mm:Nat),a.eval x=.slice ad len cap→(Instr.sliceBounds true len cap (lo.map a.eval) (hi.map a.eval) (mx.map a.eval)).run P w=.ok (l,h,mm) w →
   (execOp a.eval o).run P w=.ok (.value (.slice (if mm=l then ad else ad.map (·.add (l*sz))) (h-l) (mm-l))) w:=by
  intro ad len cap l h mm h1 h2
  simp[execOp,ho,h1,Instr.sliceAt,Instr.slice,run_underlying hu,h2,sizeOf,typeInfo,hi',hsz]
 simp only[ev1] at hv
 split at hv
 ·rename_i es tk hp
  split at hv
  case h_2=>cases hv
  rename_i l h m hb
  split at hv
  case isFalse=>cases hv
  rename_i hes
  cases hv
  rw[hp] at hx'
  simp only[Enc] at hx'
  obtain⟨hpu,ad,cap,hxe,hle,hrows,htk⟩:=hx'
  obtain⟨hlh,hhl,hm,hbr⟩:=zgv (P:=P) (w:=w) (isS:=true) hlo hhi hmx ht hb hle
  refine .plain hr (hrun ad es.length cap l h _ hxe hbr) ?_
  have hlen:((es.drop l).take (h-l)).length=h-l:=by rw[List.length_take,List.length_drop]; omega
  have hmm:h≤(if m=true then h else cap):=by split<;>omega
  simp only[Enc]
  refine⟨fun d hd=>hpu d (List.mem_of_mem_drop (List.mem_of_mem_take hd)),(if(if m=true then h else cap)=l then ad else ad.map (·.add (l*sz))),(if m=true then h else cap)-l,by rw[hlen],by rw[hlen]; omega,?_,?_⟩
  ·by_cases hml:(if m=true then h else cap)=l
   ·rw[if_pos hml]
    have h0:(es.drop l).take (h-l)=[]:=by rw[show h-l=0 by omega]; simp
    rw[h0]
    cases ad with
    | none=>exact⟨rfl,by omega⟩
    | some ad=>exact⟨.inl rfl,⟨0,by simp⟩,by simp only[zao]⟩
   ·rw[if_neg hml]
    cases ad with
    | none =>
     exfalso
     obtain⟨he0,hc0⟩:=hrows
     subst he0
     simp only[List.length_nil] at hhl
     apply hml
     split<;>omega
    | some ad =>
     obtain⟨b,off,sp⟩:=ad
     obtain⟨hsp,_,hrows⟩:=hrows
     by_cases hes0:es=[]
     ·subst hes0
      exact⟨.inl (by simp),⟨0,by simp⟩,by simp[zao]⟩
     have hsp:=hsp.resolve_left hes0
     simp only at hsp hrows
     subst hsp
     simp only[Option.map_some,Addr.add_lit]
     exact⟨.inr trivial,⟨sz,fun d hd=>hes d (List.mem_of_mem_drop (List.mem_of_mem_take hd))⟩,zpB hrows hes (by omega)⟩
  ·by_cases hc:m=true∨tk=.full∧h=es.length
   ·rw[if_pos hc]
    simp only[TkOk,hlen]
    rcases hc with hc|⟨hc,hhe⟩
    ·rw[if_pos hc]
    ·subst hc
     simp only[TkOk] at htk
     split<;>omega
   ·rw[if_neg hc]
    trivial
 ·rename_i id off k szz hp
  split at hv
  case h_2=>cases hv
  rename_i l h m hb
  split at hv
  case isFalse=>cases hv
  rename_i hc
  cases hv
  rw[hp] at hx'
  simp only[Enc] at hx'
  obtain⟨ha,cap,hxe,hle⟩:=hx'
  obtain⟨hlh,hhl,hm,hbr⟩:=zgv (P:=P) (w:=w) (isS:=true) hlo hhi hmx ht hb hle
  refine .plain hr (hrun _ k cap l h _ hxe hbr) ?_
  have hmm:h≤(if m=true then h else cap):=by split<;>omega
  simp only[Enc]
  refine⟨ha,(if m=true then h else cap)-l,?_,by omega⟩
  congr 1
  by_cases hml:(if m=true then h else cap)=l
  ·rw[if_pos hml]
   have:l=0:=by
    rcases hc with hc|⟨hc,hmf⟩
    ·exact hc
    ·rw[hmf] at hml; simp at hml; omega
   subst this
   simp
  ·rw[if_neg hml]
   simp[Addr.add_lit]
 ·cases hv
theorem zsj(vs:List Value)(off:Nat):∀(k:Nat) (cs:Array Value),off+k+vs.length≤cs.size →
  ((vs.zipIdx k).foldl (fun cs (c:Value×Nat)=>cs.setIfInBounds (off+c.2) c.1) cs).toList=cs.toList.take (off+k)++vs++cs.toList.drop (off+k+vs.length):=by
 induction vs with
 | nil=>intro k cs _; simp
 | cons v vs ih =>
  intro k cs h
  simp only[List.zipIdx_cons,List.foldl_cons,List.length_cons] at h ⊢
  rw[ih (k+1) _ (by simp; omega)]
  simp only[Array.toList_setIfInBounds]
  have hlt:off+k<cs.toList.length:=by simp; omega
  have h1:(cs.toList.set (off+k) v).take (off+(k+1))=cs.toList.take (off+k)++[v]:=by
   rw[show off+(k+1)=off+k+1 by omega,List.take_succ_eq_append_getElem (by simpa using hlt),List.take_set_of_le (Nat.le_refl _)]
   simp
  have h2:(cs.toList.set (off+k) v).drop (off+(k+1)+vs.length)=cs.toList.drop (off+k+(vs.length+1)):=by
   rw[List.drop_set_of_lt (by omega)]
   congr 1
   omega
  rw[h1,h2]
  simp
def zbz(fm:Fm)(place:Nat→Option (Nat×Nat)):List (Nat×Operand)→List (Nat×Nat×X)→Bool
 | [],[]=>true
 | (i,x)::ps,(off,sz,sx)::qs=>(match place i with|some (off',sz')=>off'==off&&sz'==sz|none=>false)&&chkX fm x sx&&zbz fm place ps qs
 | _,_=>false
theorem zj9{place:Nat→Option (Nat×Nat)}(ht:RelT M w e a n):∀{ps:List (Nat×Operand)} {qs:List (Nat×Nat×X)} {cs ds:List V} {xs:Array Value},
  zbz M.fm place ps qs=true→za7 e cs qs=some ds→EncL M w cs xs.toList→(∀ c∈cs,c.scal=true) →
  ∃ ys,Instr.fill place xs (ps.map fun p=>(p.1,a.eval p.2))=some ys∧EncL M w ds ys.toList∧∀ c∈ds,c.scal=true
 | [],[],cs,ds,xs,_,hf,he,hs=>by
  simp only[za7,Option.some.injEq] at hf
  subst hf
  exact⟨xs,rfl,he,hs⟩
 | [],_::_,_,_,_,hc,_,_,_=>by simp[zbz] at hc
 | _::_,[],_,_,_,hc,_,_,_=>by simp[zbz] at hc
 | (i,x)::ps,(off,sz,sx)::qs,cs,ds,xs,hc,hf,he,hs=>by
  simp only[zbz,Bool.and_eq_true] at hc
  obtain⟨⟨hpl,hx⟩,hc⟩:=hc
  split at hpl
  case h_2=>cases hpl
  rename_i off' sz' hplace
  simp only[Bool.and_eq_true,beq_iff_eq] at hpl
  obtain⟨rfl,rfl⟩:=hpl
  simp only[za7] at hf
  split at hf
  case h_2=>cases hf
  rename_i us hus
  split at hf
  case isFalse=>cases hf
  rename_i hle
  obtain⟨h1,h2⟩:=zje (zam hx ht) hus
  have hul:=zaj h1
  have hxl:=zaj he
  have hsz:(a.eval x).cells.size=sz':=by rw[←Array.length_toList,hul,hle.1]
  have hfold:=zsj (a.eval x).cells.toList off' 0 xs (by simp at hxl ⊢; omega)
  simp only[Nat.add_zero,Array.length_toList,hsz] at hfold
  have hcs':EncL M w (cs.take off'++us++cs.drop (off'+us.length)) (xs.toList.take off'++(a.eval x).cells.toList++xs.toList.drop (off'+sz')):=by
   rw[hle.1]
   exact zbs (zbs (zbf he _) h1) (zbp he _)
  rw[←hfold] at hcs'
  obtain⟨ys,hy1,hy2,hy3⟩:=zj9 ht hc hf hcs' (fun c hc=>by
   simp only[List.mem_append] at hc
   rcases hc with(hc|hc)|hc
   ·exact hs c (List.mem_of_mem_take hc)
   ·exact h2 c hc
   ·exact hs c (List.mem_of_mem_drop hc))
  refine⟨ys,?_,hy2,hy3⟩
  simp only[List.map_cons,Instr.fill,hplace]
  rw[if_neg]
  ·have hz:(a.eval x).cells.zipIdx.foldl (fun cs (c:Value×Nat)=>cs.setIfInBounds (off'+c.2) c.1) xs=((a.eval x).cells.toList.zipIdx 0).foldl (fun cs (c:Value×Nat)=>cs.setIfInBounds (off'+c.2) c.1) xs:=by
    rw[←Array.foldl_toList,Array.toList_zipIdx]
   rw[←hy1]
   congr 1
  ·simp only[Bool.or_eq_true,decide_eq_true_eq,not_or]
   simp at hxl
   exact⟨by simp[hsz],by omega⟩
def zfe(P:Program)(t:TypeId)(i:Nat):Option (Nat×Nat) :=
 match P.underlying t with
 | some (.struct fs)=>match fs[i]? with
  | some f=>match P.info? f.type with
   | some inf=>some (f.offset,inf.size)
   | none=>none
  | none=>none
 | some (.array _ el)=>match P.info? el with
  | some inf=>some (i*inf.size,inf.size)
  | none=>none
 | _=>none
def zq8(P:Program)(t:TypeId):Bool :=
 match P.underlying t with
 | some (.struct fs)=>fs.all fun f=>(P.info? f.type).isSome
 | some (.array _ el)=>(P.info? el).isSome
 | _=>false
def zji(f:Field):Sem (Nat×Nat):=do pure (f.offset,←sizeOf f.type)
theorem zq9{f:Field}{inf:TypeInfo}(h:P.info? f.type=some inf):(zji f).run P w=.ok (f.offset,inf.size) w:=by
 simp[zji,sizeOf,typeInfo,h]
theorem zho:∀ fs:List Field,(∀ f∈fs,(P.info? f.type).isSome=true)→(fs.mapM zji).run P w =
  .ok (fs.map fun f=>(f.offset,((P.info? f.type).map (·.size)).getD 0)) w
 | [],_=>by simp
 | f::fs,h=>by
  obtain⟨inf,hf⟩:=Option.isSome_iff_exists.1 (h f (by simp))
  rw[List.mapM_cons,Sem.run_bind,zq9 hf,Result.andThen_ok,Sem.run_bind,zho fs (fun g hg=>h g (by simp[hg])),Result.andThen_ok]
  simp[hf]
theorem zk3{fs:Array Field}(h:fs.all (fun f=>(P.info? f.type).isSome)=true):(fs.mapM zji).run P w =
  .ok (fs.toList.map fun f=>(f.offset,((P.info? f.type).map (·.size)).getD 0)).toArray w:=by
 rw[Array.mapM_eq_mapM_toList,Sem.run_map,zho fs.toList (fun f hf=>(Array.all_eq_true_iff_forall_mem.1 h) f (by simpa using hf))]
 rfl
theorem ztY{t:TypeId}{ps:Array (Nat×Operand)}{z:List V}{qs:List (Nat×Nat×X)}{base:Nat}{i:TypeInfo}{zv:Value}(ho:o.op=.build t ps)
  (hi:P.info? t=some i) (hz:i.zero=some zv) (hzz:zch zv.cells.toList z=true) (hty:zq8 P t=true) (hp:zbz M.fm (zfe P t) ps.toList qs=true)
  (ht:RelT M w e a n) (hr:HRel M w H) (hv:ev1 base e H (.build z qs)=some (v,H1)):OpOk P o a M H w v H1:=by
 simp only[ev1] at hv
 split at hv
 case h_2=>cases hv
 rename_i cs hcs
 cases hv
 obtain⟨ys,h1,h2,h3⟩:=zj9 (w:=w) ht hp hcs (zbU hzz) (fun c hc=>V.scal_of_pure (zcP hzz c hc))
 refine .plain (rv:=.agg ys) hr ?_ (by simp only[Enc]; exact⟨h3,ys.toList,by simp,h2⟩)
 have hmap:(ps.map fun p=>(p.1,a.eval p.2)).toList=ps.toList.map fun p=>(p.1,a.eval p.2):=by simp
 unfold zq8 at hty
 split at hty
 ·rename_i fs hu
  have hpl:(fun k=>((fs.toList.map fun f=>(f.offset,((P.info? f.type).map (·.size)).getD 0))[k]?))=zfe P t:=by
   funext k
   simp only[zfe,hu,List.getElem?_map]
   rw[Array.getElem?_toList]
   cases hk:fs[k]? with
   | none=>rfl
   | some f =>
    have hm:=Array.mem_of_getElem? hk
    have:=(Array.all_eq_true_iff_forall_mem.1 hty) f hm
    obtain⟨inf,hf⟩:=Option.isSome_iff_exists.1 this
    simp[hf]
  have hmm:=zk3 (P:=P) (w:=w) hty
  have h1':Instr.fill (fun k=>(fs.toList.map fun f=>(f.offset,((P.info? f.type).map (·.size)).getD 0)).toArray[k]?) zv.cells (ps.map fun p=>(p.1,a.eval p.2)).toList=some ys:=by
   rw[hmap,←h1,←hpl]
   congr 1
   funext k
   simp
  have hb:(Instr.build t (ps.map fun p=>(p.1,a.eval p.2))).run P w=.ok (.agg ys) w:=by
   unfold Instr.build
   simp only[Sem.run_bind,zeroValue,typeInfo,run_program,hi,hz,Sem.run_pure,Result.andThen_ok,run_underlying hu]
   change ((fs.mapM zji).run P w).andThen _=_
   rw[hmm,Result.andThen_ok]
   simp only[h1',Sem.run_pure]
  simp only[execOp,ho,Sem.run_bind,Sem.run_pure]
  change (Result.andThen ((Instr.build t (ps.map fun p=>(p.1,a.eval p.2))).run P w) _)=_
  rw[hb]
  rfl
 ·rename_i k el hu
  obtain⟨inf,hf⟩:=Option.isSome_iff_exists.1 hty
  have hpl:(fun k=>some (k*inf.size,inf.size))=zfe P t:=by
   funext k
   simp[zfe,hu,hf]
  have h1':Instr.fill (fun k=>some (k*inf.size,inf.size)) zv.cells (ps.map fun p=>(p.1,a.eval p.2)).toList=some ys:=by
   rw[hmap,hpl]
   exact h1
  have hb:(Instr.build t (ps.map fun p=>(p.1,a.eval p.2))).run P w=.ok (.agg ys) w:=by
   unfold Instr.build
   simp only[Sem.run_bind,zeroValue,typeInfo,run_program,hi,hz,Sem.run_pure,Result.andThen_ok,run_underlying hu,sizeOf,hf,h1']
  simp only[execOp,ho,Sem.run_bind,Sem.run_pure]
  change (Result.andThen ((Instr.build t (ps.map fun p=>(p.1,a.eval p.2))).run P w) _)=_
  rw[hb]
  rfl
 ·cases hty
theorem zvI{t el:TypeId}{x:Operand}{sx:X}{lo hi:Option Operand}{slo shi:Option X}{base sz len:Nat}{i:TypeInfo}(ho:o.op=.slice t x lo hi none)(hx:chkX M.fm x sx=true)
  (hu0:arrOf? P t=some (len,el)) (hi':P.info? el=some i) (hsz:i.size=sz) (hlo:zbh M.fm lo slo=true) (hhi:zbh M.fm hi shi=true)
  (ht:RelT M w e a n) (hr:HRel M w H) (hv:ev1 base e H (.slcA len sz sx slo shi)=some (v,H1)):OpOk P o a M H w v H1:=by
 have hx':=zam hx ht
 have hu:=arrOf?_some hu0
 simp only[ev1] at hv
 split at hv
 case h_2=>cases hv
 rename_i l h m hb
 split at hv
 case h_2=>cases hv
 rename_i id off hp
 split at hv
 case isFalse=>cases hv
 rename_i hl
 cases hv
 rw[hp] at hx'
 simp only[Enc] at hx'
 obtain⟨hlh,hhl,hm,hbr⟩:=zgv (P:=P) (w:=w) (isS:=false) (mx:=none) hlo hhi rfl ht hb (Nat.le_refl len)
 have hmf:m=false:=by
  unfold zbB at hb
  simp only at hb
  split at hb
  case h_2=>cases hb
  split at hb
  case isFalse=>cases hb
  rename_i hmm _
  simp only[Option.some.injEq,Prod.mk.injEq] at hb
  simp only[Option.some.injEq] at hmm
  rw[←hb.2.2,←hmm]; rfl
 subst hmf
 simp only[Bool.false_eq_true,if_false] at hbr
 have hne:¬len=l:=by omega
 refine .plain (rv:=.slice (some ⟨M.j id,off+l*sz,none⟩) (h-l) (len-l)) hr ?_ (by simp only[Enc]; exact⟨hx'.1,len-l,rfl,by omega⟩)
 simp only[Option.map_none] at hbr
 simp[execOp,ho,hx'.2,Instr.sliceAt,Instr.sureAddr,run_underlying hu,hbr,sizeOf,typeInfo,hi',hsz,hne,Addr.add_lit]
end Go.Ev
/- Slice literals; the checker of one operation as a whole. -/
namespace Go.Ev
open Go Go.RowKit
variable {P:Program} {M M':Mm} {H H1:Heap} {w w':World}
variable {e:Env} {a:Act} {n:Nat} {o:Oper} {v:V}
theorem zis{α:Type}(z:List α):∀(k i:Nat),i<k*z.length→(List.replicate k z).flatten[i]?=z[i%z.length]?
 | 0,i,h=>by simp at h
 | k+1,i,h=>by
  rw[List.replicate_succ,List.flatten_cons]
  by_cases hi:i<z.length
  ·rw[List.getElem?_append_left hi,Nat.mod_eq_of_lt hi]
  ·rw[List.getElem?_append_right (by omega),zis z k (i-z.length) (by rw[Nat.add_mul,Nat.one_mul] at h; omega),Nat.mod_eq_sub_mod (by omega:i≥z.length)]
theorem zlD{sz:Nat}:∀{qs:List (Nat×X)} {es fs:List (List V)},(∀ e∈es,e.length=sz)→(∀ f∈es,∀ c∈f,c.pure=true)→zgt e sz es qs=some fs →
  za7 e es.flatten (qs.map fun q=>(q.1*sz,sz,q.2))=some fs.flatten∧fs.length=es.length∧(∀ e∈fs,e.length=sz)∧(∀ f∈fs,∀ c∈f,c.pure=true)
 | [],es,fs,hs,hp,h=>by
  simp only[zgt,Option.some.injEq] at h
  subst h
  exact⟨rfl,rfl,hs,hp⟩
 | (i,x)::qs,es,fs,hs,hp,h=>by
  simp only[zgt] at h
  split at h
  case h_2=>cases h
  rename_i ds hds
  split at h
  case isFalse=>cases h
  rename_i hc
  obtain⟨hi,hl,hpu⟩:=hc
  have hs':∀ e∈es.set i ds,e.length=sz:=by
   intro f hf
   rcases List.mem_or_eq_of_mem_set hf with hf|rfl
   ·exact hs f hf
   ·exact hl
  have hp':∀ f∈es.set i ds,∀ c∈f,c.pure=true:=by
   intro f hf
   rcases List.mem_or_eq_of_mem_set hf with hf|rfl
   ·exact hp f hf
   ·exact List.all_eq_true.1 hpu
  obtain⟨h1,h2,h3,h4⟩:=zlD hs' hp' h
  refine⟨?_,by rw[h2]; simp,h3,h4⟩
  simp only[List.map_cons,za7,hds]
  have hfl:=zaY hs
  have hlt:i*sz+sz≤es.length*sz:=by
   have:(i+1)*sz≤es.length*sz:=Nat.mul_le_mul_right _ hi
   rw[Nat.add_mul,Nat.one_mul] at this
   exact this
  rw[if_pos ⟨hl,by rw[hfl,hl]; exact hlt⟩]
  have hset:(es.set i ds).flatten=es.flatten.take (i*sz)++ds++es.flatten.drop (i*sz+ds.length):=by
   have e1:es=es.take i++es[i]::es.drop (i+1):=by rw[List.getElem_cons_drop,List.take_append_drop]
   have t1:(es.take i).flatten.length=i*sz:=by
    rw[zaY (sz:=sz) (fun f hf=>hs f (List.mem_of_mem_take hf)),List.length_take,Nat.min_eq_left (by omega)]
   have t2:es[i].length=sz:=hs _ (List.getElem_mem hi)
   have e2:es.set i ds=es.take i++ds::es.drop (i+1):=List.set_eq_take_append_cons_drop▸by rw[if_pos hi]
   rw[e2]
   have e3:es.flatten=(es.take i).flatten++(es[i]++(es.drop (i+1)).flatten):=by
    have:=congrArg List.flatten e1
    rw[List.flatten_append,List.flatten_cons] at this
    exact this
   rw[e3]
   simp only[List.flatten_append,List.flatten_cons]
   rw[←t1,List.take_left,hl,←t2,List.drop_append,]
   simp
  rw[←hset]
  exact h1
theorem zvJ{z:List V}{zc:Array Value}(hzz:zch zc.toList z=true)(hz0:0<z.length)(k:Nat) :
  EncL M w (List.replicate k z).flatten ((Array.range (k*z.length)).map (fun j=>zc[j%zc.size]!)).toList:=by
 have hzl:zc.size=z.length:=by
  have:=zaj (zbU (M:=M) (w:=w) hzz)
  simpa using this
 refine zcl ?_ fun j c x hc hx=>?_
 ·rw[zaY (sz:=z.length) (fun f hf=>by rw[List.eq_of_mem_replicate hf])]
  simp
 ·have hj:j<k*z.length:=by
   have:=(List.getElem?_eq_some_iff.1 hc).1
   rw[zaY (sz:=z.length) (fun f hf=>by rw[List.eq_of_mem_replicate hf]),List.length_replicate] at this
   exact this
  rw[zis z k j hj] at hc
  obtain⟨x',hx',he⟩:=zaN (zbU (M:=M) (w:=w) hzz) hc
  have hm:j%z.length<zc.size:=by rw[hzl]; exact Nat.mod_lt _ hz0
  have:x=x':=by
   simp only[Array.toList_map,Array.toList_range,List.getElem?_map] at hx
   rw[List.getElem?_range hj] at hx
   simp only[Option.map_some,Option.some.injEq] at hx
   rw[←hx,hzl]
   rw[getElem!_pos zc _ hm]
   simp only[Array.getElem?_toList] at hx'
   rw[Array.getElem?_eq_getElem hm] at hx'
   simpa using hx'
  rw[this]
  exact he
theorem zvK{t el:TypeId}{l c:Operand}{sx:X}{s base bytes:Nat}{z:List V}{i:TypeInfo}{zv:Value}(ho:o.op=.makeSlice t l c)(hl:chkX M.fm l sx=true)(hc:chkX M.fm c sx=true)
  (hu0:elemOf? P t=some el) (hi:P.info? el=some i) (hsz:i.size=z.length) (hby:i.bytes=bytes) (hb0:0<bytes) (hz0:0<z.length) (hz:i.zero=some zv) (hzz:zch zv.cells.toList z=true)
  (ht:RelT M w e a n) (hr:HRel M w H) (hv:ev1 base e H (.mksl s bytes z sx)=some (v,H1)):OpOk P o a M H w v H1:=by
 have hu:=elemOf?_some hu0
 have hl':=zam hl ht
 have hc':=zam hc ht
 simp only[ev1] at hv
 split at hv
 case h_2=>cases hv
 rename_i kd k hk
 split at hv
 case isFalse=>cases hv
 rename_i hcond
 obtain⟨hf,h0,hle⟩:=hcond
 cases hv
 rw[hk] at hl' hc'
 simp only[Enc] at hl' hc'
 have hkn:k.toNat≤140737488355328:=Nat.le_trans (Nat.le_mul_of_pos_right _ hb0) hle
 have hbytes:(i.bytes:Int)*k≤281474976710656:=by
  rw[hby]
  have h1:((k.toNat*bytes:Nat):Int)=(bytes:Int)*k:=by
   rw[Int.natCast_mul,Int.toNat_of_nonneg h0,Int.mul_comm]
  omega
 have hrun:=run_make (P:=P) w t el i zv hu hi hz kd kd k k h0 (Int.le_refl _) hbytes (by omega)
 have hcells:madeCells zv.cells (k.toNat*i.size)=(Array.range (k.toNat*z.length)).map (fun j=>zv.cells[j%zv.cells.size]!):=by rw[hsz]; rfl
 rw[hcells] at hrun
 obtain⟨st,ii,r⟩:=zj7 (t:=el) hr hf (zvJ hzz hz0 k.toNat) (fun c hc=>by
  obtain⟨f,hf,hc⟩:=List.mem_flatten.1 hc
  rw[List.eq_of_mem_replicate hf] at hc
  exact V.scal_of_pure (zcP hzz c hc))
 refine⟨.value (.slice (some ⟨w.heap.size,0,none⟩) k.toNat k.toNat),_,_,?_,?_,st,ii,r⟩
 ·simp only[execOp,ho,hl',hc',Sem.run_bind,Sem.run_pure,hrun,Result.andThen_ok]
 ·simp only[Enc,Mm.alc,decide_true,Bool.true_or,if_true,true_and]
  exact⟨k.toNat,rfl,Nat.le_refl _⟩
theorem zsk{t el:TypeId}{k base:Nat}{ps:Array (Nat×Operand)}{z:List V}{qs:List (Nat×X)}{i:TypeInfo}{zv:Value}(ho:o.op=.buildSlice t k ps)
  (hu0:elemOf? P t=some el) (hi:P.info? el=some i) (hsz:i.size=z.length) (hz0:0<z.length) (hk:k*z.length≤16777216) (hz:i.zero=some zv) (hzz:zch zv.cells.toList z=true)
  (hp:zbz M.fm (fun j=>some (j*z.length,z.length)) ps.toList (qs.map fun q=>(q.1*z.length,z.length,q.2))=true)
  (ht:RelT M w e a n) (hr:HRel M w H) (hv:ev1 base e H (.bslice k z qs)=some (v,H1)):OpOk P o a M H w v H1:=by
 have hu:=elemOf?_some hu0
 simp only[ev1] at hv
 split at hv
 case h_2=>cases hv
 rename_i es hes
 cases hv
 have hzp:=zcP hzz
 obtain⟨h1,h2,h3,h4⟩:=zlD (fun f hf=>by rw[List.eq_of_mem_replicate hf]) (fun f hf=>by rw[List.eq_of_mem_replicate hf]; exact hzp) hes
 rw[List.length_replicate] at h2
 have hzl:zv.cells.size=z.length:=by
  have:=zaj (zbU (M:=M) (w:=w) hzz)
  simpa using this
 -- the cells at first
 have hinit:EncL M w (List.replicate k z).flatten ((Array.range (k*i.size)).map (fun j=>zv.cells[j%zv.cells.size]!)).toList:=by
  refine zcl ?_ fun j c x hc hx=>?_
  ·rw[zaY (sz:=z.length) (fun f hf=>by rw[List.eq_of_mem_replicate hf])]
   simp[hsz]
  ·have hj:j<k*z.length:=by
    have:=(List.getElem?_eq_some_iff.1 hc).1
    rw[zaY (sz:=z.length) (fun f hf=>by rw[List.eq_of_mem_replicate hf]),List.length_replicate] at this
    exact this
   rw[zis z k j hj] at hc
   obtain⟨x',hx',he⟩:=zaN (zbU (M:=M) (w:=w) hzz) hc
   have hm:j%z.length<zv.cells.size:=by rw[hzl]; exact Nat.mod_lt _ hz0
   have:x=x':=by
    simp only[Array.toList_map,Array.toList_range,List.getElem?_map,hsz] at hx
    rw[List.getElem?_range hj] at hx
    simp only[Option.map_some,Option.some.injEq] at hx
    rw[←hx,hzl]
    rw[getElem!_pos zv.cells _ hm]
    simp only[Array.getElem?_toList] at hx'
    rw[Array.getElem?_eq_getElem hm] at hx'
    simpa using hx'
   rw[this]
   exact he
 obtain⟨ys,hf,hy,_⟩:=zj9 (w:=w) ht hp h1 hinit (fun c hc=>by
  obtain⟨f,hf,hc⟩:=List.mem_flatten.1 hc
  rw[List.eq_of_mem_replicate hf] at hc
  exact V.scal_of_pure (hzp c hc))
 have hrun:(execOp a.eval o).run P w=.ok (.value (.slice (some ⟨w.heap.size,0,none⟩) k k)) (w.alloc (.cells ys el)):=by
  have hmap:(ps.map fun p=>(p.1,a.eval p.2)).toList=ps.toList.map fun p=>(p.1,a.eval p.2):=by simp
  have hb:(Instr.buildSlice t k (ps.map fun p=>(p.1,a.eval p.2))).run P w=.ok (.slice (some ⟨w.heap.size,0,none⟩) k k) (w.alloc (.cells ys el)):=by
   unfold Instr.buildSlice
   rw[←hmap] at hf
   simp only[Sem.run_bind,run_underlying hu,Result.andThen_ok,sizeOf,typeInfo,run_program,hi,Sem.run_pure]
   rw[if_neg (by rw[hsz]; omega)]
   have hfin:∀ xs:Array Value,Instr.fill (fun i_1=>some (i_1*i.size,i.size)) xs (ps.map fun p=>(p.1,a.eval p.2)).toList=some ys →
     Sem.run P (match Instr.fill (fun i_1=>some (i_1*i.size,i.size)) xs (ps.map fun p=>(p.1,a.eval p.2)).toList with
      | some cells=>(do pure (.slice (some (←newRow el cells)) k k):Sem Value)
      | _ => stuck "buildSlice: a part of the wrong size") w = .ok (.slice (some ⟨w.heap.size, 0, none⟩) k k) (w.alloc (.cells ys el)) := by
    intro xs hx
    rw[hx]
    simp[newRow]
   by_cases hkz:k*i.size=0
   ·rw[if_pos hkz]
    have hxs:(Array.range (k*i.size)).map (fun j=>(#[]:Array Value)[j%(#[]:Array Value).size]!)=(Array.range (k*i.size)).map (fun j=>zv.cells[j%zv.cells.size]!):=by
     apply Array.ext'
     rw[hkz]
     simp
    rw[Sem.run_bind,Sem.run_pure,Result.andThen_ok]
    refine hfin _ ?_
    rw[hxs]
    simpa[hsz] using hf
   ·rw[if_neg hkz]
    simp only[Sem.run_bind,zeroValue,typeInfo,run_program,hi,hz,Sem.run_pure,Result.andThen_ok]
    refine hfin _ ?_
    simpa[hsz] using hf
  simp only[execOp,ho,Sem.run_bind,Sem.run_pure]
  change (Result.andThen ((Instr.buildSlice t k (ps.map fun p=>(p.1,a.eval p.2))).run P w) _)=_
  rw[hb]
  rfl
 obtain⟨st,ii,r⟩:=zin (M':=M.lims w.heap.size none) hr (Grew.alloc w (.cells ys el)) (Same.lims M _ _)
 refine⟨_,_,_,hrun,?_,st,ii,r⟩
 simp only[Enc]
 refine⟨h4,some ⟨w.heap.size,0,none⟩,k,by rw[h2],by omega,⟨.inr rfl,⟨z.length,h3⟩,?_⟩,by simp only[TkOk]; exact h2.symm⟩
 refine zjh (EncL.step st hr ii hy) ?_ ?_
 ·intro j u hu
  rw[cell_of_row _ w.heap.size (0+j) _ el (0,0) (heap_alloc_new w _)]
  simpa using hu
 ·intro j _ l hl
  simp[Mm.lims] at hl
theorem zra{t el:TypeId}{k base sp:Nat}{ps:Array (Nat×Operand)}{z:List V}{qs:List (Nat×X)}{i:TypeInfo}{zv:Value}(ho:o.op=.buildSlice t k ps)
  (hu0:elemOf? P t=some el) (hi:P.info? el=some i) (hsz:i.size=z.length) (hz0:0<z.length) (hk:k*z.length≤16777216) (hz:i.zero=some zv) (hzz:zch zv.cells.toList z=true)
  (hp:zbz M.fm (fun j=>some (j*z.length,z.length)) ps.toList (qs.map fun q=>(q.1*z.length,z.length,q.2))=true)
  (ht:RelT M w e a n) (hr:HRel M w H) (hv:ev1 base e H (.bsliceR sp k z qs)=some (v,H1)):OpOk P o a M H w v H1:=by
 have hu:=elemOf?_some hu0
 simp only[ev1] at hv
 split at hv
 case isFalse=>cases hv
 rename_i hfree
 split at hv
 case h_2=>cases hv
 rename_i ds h1
 cases hv
 have hzp:=zcP hzz
 have hzl:zv.cells.size=z.length:=by
  have:=zaj (zbU (M:=M) (w:=w) hzz)
  simpa using this
 -- the cells at first
 have hinit:EncL M w (List.replicate k z).flatten ((Array.range (k*i.size)).map (fun j=>zv.cells[j%zv.cells.size]!)).toList:=by
  refine zcl ?_ fun j c x hc hx=>?_
  ·rw[zaY (sz:=z.length) (fun f hf=>by rw[List.eq_of_mem_replicate hf])]
   simp[hsz]
  ·have hj:j<k*z.length:=by
    have:=(List.getElem?_eq_some_iff.1 hc).1
    rw[zaY (sz:=z.length) (fun f hf=>by rw[List.eq_of_mem_replicate hf]),List.length_replicate] at this
    exact this
   rw[zis z k j hj] at hc
   obtain⟨x',hx',he⟩:=zaN (zbU (M:=M) (w:=w) hzz) hc
   have hm:j%z.length<zv.cells.size:=by rw[hzl]; exact Nat.mod_lt _ hz0
   have:x=x':=by
    simp only[Array.toList_map,Array.toList_range,List.getElem?_map,hsz] at hx
    rw[List.getElem?_range hj] at hx
    simp only[Option.map_some,Option.some.injEq] at hx
    rw[←hx,hzl]
    rw[getElem!_pos zv.cells _ hm]
    simp only[Array.getElem?_toList] at hx'
    rw[Array.getElem?_eq_getElem hm] at hx'
    simpa using hx'
   rw[this]
   exact he
 obtain⟨ys,hf,hy,hsc⟩:=zj9 (w:=w) ht hp h1 hinit (fun c hc=>by
  obtain⟨f,hf,hc⟩:=List.mem_flatten.1 hc
  rw[List.eq_of_mem_replicate hf] at hc
  exact V.scal_of_pure (hzp c hc))
 have hrun:(execOp a.eval o).run P w=.ok (.value (.slice (some ⟨w.heap.size,0,none⟩) k k)) (w.alloc (.cells ys el)):=by
  have hmap:(ps.map fun p=>(p.1,a.eval p.2)).toList=ps.toList.map fun p=>(p.1,a.eval p.2):=by simp
  have hb:(Instr.buildSlice t k (ps.map fun p=>(p.1,a.eval p.2))).run P w=.ok (.slice (some ⟨w.heap.size,0,none⟩) k k) (w.alloc (.cells ys el)):=by
   unfold Instr.buildSlice
   rw[←hmap] at hf
   simp only[Sem.run_bind,run_underlying hu,Result.andThen_ok,sizeOf,typeInfo,run_program,hi,Sem.run_pure]
   rw[if_neg (by rw[hsz]; omega)]
   have hfin:∀ xs:Array Value,Instr.fill (fun i_1=>some (i_1*i.size,i.size)) xs (ps.map fun p=>(p.1,a.eval p.2)).toList=some ys →
     Sem.run P (match Instr.fill (fun i_1=>some (i_1*i.size,i.size)) xs (ps.map fun p=>(p.1,a.eval p.2)).toList with
      | some cells=>(do pure (.slice (some (←newRow el cells)) k k):Sem Value)
      | _ => stuck "buildSlice: a part of the wrong size") w = .ok (.slice (some ⟨w.heap.size, 0, none⟩) k k) (w.alloc (.cells ys el)) := by
    intro xs hx
    rw[hx]
    simp[newRow]
   by_cases hkz:k*i.size=0
   ·rw[if_pos hkz]
    have hxs:(Array.range (k*i.size)).map (fun j=>(#[]:Array Value)[j%(#[]:Array Value).size]!)=(Array.range (k*i.size)).map (fun j=>zv.cells[j%zv.cells.size]!):=by
     apply Array.ext'
     rw[hkz]
     simp
    rw[Sem.run_bind,Sem.run_pure,Result.andThen_ok]
    refine hfin _ ?_
    rw[hxs]
    simpa[hsz] using hf
   ·rw[if_neg hkz]
    simp only[Sem.run_bind,zeroValue,typeInfo,run_program,hi,hz,Sem.run_pure,Result.andThen_ok]
    refine hfin _ ?_
    simpa[hsz] using hf
  simp only[execOp,ho,Sem.run_bind,Sem.run_pure]
  change (Result.andThen ((Instr.buildSlice t k (ps.map fun p=>(p.1,a.eval p.2))).run P w) _)=_
  rw[hb]
  rfl
 obtain⟨st,ii,r⟩:=zj7 (t:=el) hr hfree hy hsc
 refine⟨_,_,_,hrun,?_,st,ii,r⟩
 simp only[Enc,Mm.alc,decide_true,Bool.true_or,if_true,true_and]
 exact⟨k,rfl,Nat.le_refl _⟩
theorem zvL{c:V}{ds:List V}{x:Value}{sz:Nat}(hr:HRel M w H)(hz:0<sz)(h:Enc M w c x)(hc:znP H sz c=some ds)(k:Nat)(hk:k≤ds.length/sz) :
  (Builtin.lenOf x).run P w=.ok (ds.length/sz) w∧(∀ d∈ds,d.scal=true)∧∃ xs:List Value,(Builtin.firstCells sz k x).run P w=.ok xs.toArray w∧EncL M w (ds.take (k*sz)) xs∧xs.length=k*sz:=by
 have hle:k*sz≤ds.length:=Nat.le_trans (Nat.mul_le_mul_right _ hk) (Nat.div_mul_le_self _ _)
 cases c<;>simp only[znP,reduceCtorEq] at hc
 case vs es tk =>
  split at hc
  case isFalse=>cases hc
  rename_i hes
  cases hc
  have hes:∀ e∈es,e.length=sz:=fun e he=>by have:=List.all_eq_true.1 hes e he; simpa using this
  have hfl:=zaY hes
  have hdiv:es.flatten.length/sz=es.length:=by rw[hfl]; exact Nat.mul_div_cancel _ hz
  rw[hdiv] at hk ⊢
  simp only[Enc] at h
  obtain⟨hp,ad,cap,rfl,hcap,hrows,_⟩:=h
  refine⟨by simp[Builtin.lenOf],fun d hd=>by
   obtain⟨f,hf,hd⟩:=List.mem_flatten.1 hd
   exact V.scal_of_pure (hp f hf d hd),?_⟩
  cases ad with
  | none =>
   obtain⟨rfl,rfl⟩:=hrows
   have:k=0:=by simpa using hk
   subst this
   exact⟨[],by simp[Builtin.firstCells],by simp[EncL],by simp⟩
  | some ad =>
   obtain⟨b,off,sp⟩:=ad
   obtain⟨hsp,_,hrows⟩:=hrows
   by_cases hk0:k=0
   ·subst hk0
    exact⟨[],run_firstCells_some w sz 0 ⟨b,off,sp⟩ es.length cap [] (by simp) (fun j u hu=>by simp at hu),by simp[EncL],by simp⟩
   have hne:es≠[]:=by rintro rfl; simp at hk; omega
   have hsp:=hsp.resolve_left hne
   simp only at hsp hrows
   subst hsp
   obtain⟨xs,h1,h2⟩:=zeL hrows
   have hl:=zaj h1
   have e1:=zbf h1 (k*sz)
   refine⟨xs.take (k*sz),run_firstCells_some w sz k ⟨b,off,none⟩ es.length cap (xs.take (k*sz)) (by rw[List.length_take]; omega) (fun j u hu=>by
    rw[Addr.add_mid]
    rw[List.getElem?_take] at hu
    split at hu
    ·exact h2 j u hu
    ·cases hu),e1,by rw[List.length_take]; omega⟩
 case rs id off m sz' =>
  split at hc
  case h_2=>cases hc
  rename_i cs hb
  split at hc
  case isFalse=>cases hc
  rename_i hcl
  cases hc
  have hlen:((cs.drop off).take (m*sz)).length=m*sz:=by rw[List.length_take,List.length_drop]; omega
  have hdiv:((cs.drop off).take (m*sz)).length/sz=m:=by rw[hlen]; exact Nat.mul_div_cancel _ hz
  rw[hdiv] at hk ⊢
  simp only[Enc] at h
  obtain⟨_,cap,rfl,hcap⟩:=h
  have hb':=hr.rel id _ hb
  simp only[BRel] at hb'
  obtain⟨hs,_,xs,te,hh,he⟩:=hb'
  have hl:=zaj he
  have e1:=zbf (zbf (zbp he off) (m*sz)) (k*sz)
  have hkm:k*sz≤m*sz:=Nat.mul_le_mul_right _ hk
  refine⟨by simp[Builtin.lenOf],fun d hd=>hs d (List.mem_of_mem_drop (List.mem_of_mem_take hd)),_,run_firstCells_some w sz k ⟨M.j id,off,none⟩ m cap (((xs.toList.drop off).take (m*sz)).take (k*sz)) (by
   rw[List.length_take,List.length_take,List.length_drop]; omega) (fun j u hu=>by
    rw[Addr.add_mid,cell_of_row w (M.j id) (off+j) xs te (0,0) hh]
    rw[List.getElem?_take] at hu
    split at hu
    ·rw[List.getElem?_take] at hu
     split at hu
     ·rw[List.getElem?_drop] at hu; simpa using hu
     ·cases hu
    ·cases hu),e1,by rw[List.length_take,List.length_take,List.length_drop]; omega⟩
theorem zwX{t t' el:TypeId}{x y:Operand}{sx sy:X}{base sz:Nat}{i:TypeInfo}(ho:o.op=.call { callee:=.builtin .copy,args:=#[x,y],argTypes:=#[t,t'] })
  (hx:chkX M.fm x sx=true) (hy:chkX M.fm y sy=true) (hu0:elemOf? P t=some el) (hi:P.info? el=some i) (hsz:i.size=sz) (ht:RelT M w e a n) (hr:HRel M w H)
  (hv:ev1 base e H (.cpy sz sx sy)=some (v,H1)):OpOk P o a M H w v H1:=by
 have hx':=zam hx ht
 have hy':=zam hy ht
 have hu:=elemOf?_some hu0
 simp only[ev1] at hv
 split at hv
 case h_2=>cases hv
 rename_i id off m sz' hp
 split at hv
 case h_2=>cases hv
 rename_i cs ds hb hrow
 split at hv
 case isFalse=>cases hv
 rename_i hc
 obtain⟨hle,hz⟩:=hc
 cases hv
 rw[hp] at hx'
 simp only[Enc] at hx'
 obtain⟨_,cap,hxe,hcap⟩:=hx'
 obtain⟨k,hk⟩:∃ k,k=min (ds.length/sz) m:=⟨_,rfl⟩
 rw[←hk]
 have hkm:k≤m:=by rw[hk]; exact Nat.min_le_right _ _
 obtain⟨hlen,hsd,xs,hfc,hxs,hxl⟩:=zvL (P:=P) hr hz hy' hrow k (by rw[hk]; exact Nat.min_le_left _ _)
 have hb':=hr.rel id _ hb
 simp only[BRel] at hb'
 obtain⟨hs,_,cur,te,hh,he⟩:=hb'
 have hcl:=zaj he
 have hkk:k*sz≤m*sz:=Nat.mul_le_mul_right _ hkm
 have hdsl:=zaj hxs
 have hone:=zoo hxs (fun c hc=>hsd c (List.mem_of_mem_take hc))
 have hst:=run_storeCells_at P (M.j id) off te xs 0 cur w hh (by rw[hxl]; simp at hcl; omega) hone
 simp only[Nat.add_zero] at hst
 obtain⟨s,ii,r⟩:=zmk (ds:=cs.take off++ds.take (k*sz)++cs.drop (off+k*sz)) hr hb hh (ys:=(cur.toList.take off++xs++cur.toList.drop (off+xs.length)).toArray)
  (by
   simp only[]
   refine zbs (zbs (zbf he off) hxs) ?_
   rw[hxl]
   exact zbp he _)
  (fun c hc=>by
   simp only[List.mem_append] at hc
   rcases hc with(hc|hc)|hc
   ·exact hs c (List.mem_of_mem_take hc)
   ·exact hsd c (List.mem_of_mem_take hc)
   ·exact hs c (List.mem_of_mem_drop hc))
 refine⟨.value (.int .i64 k),_,_,?_,by simp only[Enc],s,ii,r⟩
 have hmin:Nat.min (ds.length/sz) m=k:=hk.symm
 simp[execOp,ho,resolve,invoke,builtin,hxe,Builtin.copy_,run_underlying hu,hlen,hmin,sizeOf,typeInfo,hi,hsz,hfc,hst,goInt]
end Go.Ev
/- More operations: what is alike, texts, maps. -/
namespace Go.Ev
open Go Go.RowKit
variable {P:Program} {M M':Mm} {H H1:Heap} {w w':World}
variable {e:Env} {a:Act} {n:Nat} {o:Oper} {v:V}
def tyAg(P:Program)(t:TypeId):Bool:=match P.underlying t with|some d=>d.isRow|none=>false
def zka(p:TypeId→Option (List Kd)):Nat→List Field→Option (List Kd)
 | _,[]=>some []
 | off, f :: fs => if f.name ≠ "_" ∧ f.offset = off then
   match p f.type with
   | some ks=>match zka p (off+ks.length) fs with
    | some rs=>some (ks++rs)
    | none=>none
   | none=>none
  else none
def zci(P:Program):Nat→TypeId→Option (List Kd)
 | 0,_=>none
 | k+1,t =>
  match(match P.underlying t with
   | some (.int _)=>some [Kd.int]
   | some .bool=>some [Kd.bool]
   | some .string=>some [Kd.str]
   | some (.struct fs)=>if P.stoodInHeld t=false then zka (zci P k) 0 fs.toList else none
   | some (.array m el)=>match zci P k el with
    | some ks=>some (List.replicate m ks).flatten
    | none=>none
   | _=>none) with
  | some ks=>if tyOk P t ks.length (tyAg P t)=true then some ks else none
  | none=>none
theorem zk4{k:Nat}{t:TypeId}{ks:List Kd}(h:zci P k t=some ks):tyOk P t ks.length (tyAg P t)=true:=by
 cases k with
 | zero=>simp[zci] at h
 | succ k =>
  simp only[zci] at h
  split at h
  ·split at h
   ·rename_i h2; cases h; exact h2
   ·cases h
  ·cases h
theorem zff:∀{ks:List Kd} {cs ds:List V} {b:Bool},eqks ks cs ds=some b→cs.length=ks.length∧ds.length=ks.length
 | [],[],[],_,_=>⟨rfl,rfl⟩
 | [],[],_::_,_,h=>by simp[eqks] at h
 | [],_::_,_,_,h=>by simp[eqks] at h
 | _::_,[],_,_,h=>by simp[eqks] at h
 | _::_,_::_,[],_,h=>by simp[eqks] at h
 | k::ks,c::cs,d::ds,b,h=>by
  simp only[eqks] at h
  split at h
  ·rename_i x y hx hy
   have:=zff hy
   simp[this.1,this.2]
  ·cases h
theorem zdT:∀{ks rs:List Kd} {cs ds:List V} {b:Bool},eqks (ks++rs) cs ds=some b →
  ∃ x y,eqks ks (cs.take ks.length) (ds.take ks.length)=some x∧eqks rs (cs.drop ks.length) (ds.drop ks.length)=some y∧b=(x&&y)
 | [],rs,cs,ds,b,h=>⟨true,b,by simp[eqks],by simpa using h,by simp⟩
 | k::ks,rs,[],_,b,h=>by simp[eqks] at h
 | k::ks,rs,_::_,[],b,h=>by simp[eqks] at h
 | k::ks,rs,c::cs,d::ds,b,h=>by
  simp only[List.cons_append,eqks] at h
  split at h
  ·rename_i x y hx hy
   obtain⟨x',y',h1,h2,rfl⟩:=zdT hy
   simp only[Option.some.injEq] at h
   refine⟨x&&x',y',?_,by simpa using h2,by rw[←h,Bool.and_assoc]⟩
   simp only[List.length_cons,List.take_succ_cons,eqks,hx,h1]
  ·cases h
def EqOk(P:Program)(d:Nat)(t:TypeId)(ks:List Kd):Prop :=
 ∀(M:Mm) (w w2:World) (cs ds:List V) (xs ys:List Value) (b:Bool),EncL M w cs xs→EncL M w ds ys→eqks ks cs ds=some b →
  (Op.equalIn d t (mkR (tyAg P t) xs) (mkR (tyAg P t) ys)).run P w2=.ok b w2
theorem zc1{t:TypeId}{sz off:Nat}{ag:Bool}{xs:List Value}(hty:tyOk P t sz ag=true)(hl:off+sz≤xs.length) :
  (part t xs.toArray off).run P w=.ok (mkR ag ((xs.drop off).take sz)) w:=by
 have:=zhC (P:=P) (w:=w) (xs:=xs.toArray) hty (by simpa using hl)
 simpa using this
theorem zkH{d:Nat}{p:TypeId→Option (List Kd)}(hp:∀ t ks,p t=some ks→tyOk P t ks.length (tyAg P t)=true∧EqOk P d t ks):∀{fs:List Field} {off:Nat} {ks:List Kd} {cs ds:List V} {xs ys:List Value} {b:Bool} {M:Mm} {w w2:World},
  zka p off fs=some ks→EncL M w cs xs→EncL M w ds ys→off≤xs.length→off≤ys.length→eqks ks (cs.drop off) (ds.drop off)=some b→(Op.eqFields d xs.toArray ys.toArray fs).run P w2=.ok b w2
 | [],off,ks,cs,ds,xs,ys,b,M,w,w2,hk,hx,hy,hxl,hyl,h=>by
  simp only[zka,Option.some.injEq] at hk
  subst hk
  have:b=true:=by
   cases hc:cs.drop off<;>cases hd:ds.drop off<;>rw[hc,hd] at h<;>simp[eqks] at h
   exact h
  subst this
  simp[Op.eqFields]
 | f::fs,off,ks,cs,ds,xs,ys,b,M,w,w2,hk,hx,hy,hxl,hyl,h=>by
  simp only[zka] at hk
  split at hk
  case isFalse=>cases hk
  rename_i hf
  obtain⟨hname,hoff⟩:=hf
  split at hk
  case h_2=>cases hk
  rename_i k1 hk1
  split at hk
  case h_2=>cases hk
  rename_i rs hrs
  cases hk
  obtain⟨hty,heq⟩:=hp _ _ hk1
  obtain⟨x,y,h1,h2,rfl⟩:=zdT h
  have hcl:=zaj hx
  have hdl:=zaj hy
  obtain⟨l1,l2⟩:=zff h1
  simp only[List.length_take,List.length_drop] at l1 l2
  have px:=zc1 (P:=P) (w:=w2) (off:=off) (xs:=xs) hty (by omega)
  have py:=zc1 (P:=P) (w:=w2) (off:=off) (xs:=ys) hty (by omega)
  have pe:=heq M w w2 _ _ _ _ x (zbf (zbp hx off) k1.length) (zbf (zbp hy off) k1.length) h1
  have ih:=zkH (w2:=w2) hp hrs hx hy (by omega) (by omega) (by simpa[List.drop_drop] using h2)
  simp only[Op.eqFields,hoff]
  rw[if_pos hname]
  simp only[Sem.run_bind,px,py,pe,Result.andThen_ok]
  cases x
  ·simp
  ·simpa using ih
theorem zlE{d:Nat}{el:TypeId}{ks:List Kd}(hty:tyOk P el ks.length (tyAg P el)=true)(heq:EqOk P d el ks):∀{m off:Nat} {cs ds:List V} {xs ys:List Value} {b:Bool} {M:Mm} {w w2:World},
  EncL M w cs xs→EncL M w ds ys→off*ks.length≤xs.length→off*ks.length≤ys.length→eqks (List.replicate m ks).flatten (cs.drop (off*ks.length)) (ds.drop (off*ks.length))=some b →
  (Op.eqItems d el ks.length xs.toArray ys.toArray (List.range' off m)).run P w2=.ok b w2
 | 0,off,cs,ds,xs,ys,b,M,w,w2,hx,hy,hxl,hyl,h=>by
  simp only[List.replicate_zero,List.flatten_nil] at h
  have:b=true:=by
   cases hc:cs.drop (off*ks.length)<;>cases hd:ds.drop (off*ks.length)<;>rw[hc,hd] at h<;>simp[eqks] at h
   exact h
  subst this
  simp[Op.eqItems]
 | m+1,off,cs,ds,xs,ys,b,M,w,w2,hx,hy,hxl,hyl,h=>by
  rw[List.replicate_succ,List.flatten_cons] at h
  obtain⟨x,y,h1,h2,rfl⟩:=zdT h
  have hcl:=zaj hx
  have hdl:=zaj hy
  obtain⟨l1,l2⟩:=zff h1
  simp only[List.length_take,List.length_drop] at l1 l2
  have px:=zc1 (P:=P) (w:=w2) (off:=off*ks.length) (xs:=xs) hty (by omega)
  have py:=zc1 (P:=P) (w:=w2) (off:=off*ks.length) (xs:=ys) hty (by omega)
  have pe:=heq M w w2 _ _ _ _ x (zbf (zbp hx _) ks.length) (zbf (zbp hy _) ks.length) h1
  have hnext:(off+1)*ks.length=off*ks.length+ks.length:=by rw[Nat.add_mul,Nat.one_mul]
  have ih:=zlE (w2:=w2) (m:=m) (off:=off+1) hty heq hx hy (by omega) (by omega) (by rw[hnext]; simpa[List.drop_drop] using h2)
  rw[List.range'_succ]
  simp only[Op.eqItems,Sem.run_bind,px,py,pe,Result.andThen_ok]
  cases x
  ·simp
  ·simpa using ih
theorem zk5:∀{k:Nat} {t:TypeId} {ks:List Kd} {d:Nat},zci P k t=some ks→k≤d→EqOk P d t ks
 | 0,t,ks,d,h,_=>by simp[zci] at h
 | k+1,t,ks,0,h,hd=>by omega
 | k+1,t,ks,d+1,h,hd=>by
  have hok:=zk4 h
  have sub:∀ t ks,zci P k t=some ks→tyOk P t ks.length (tyAg P t)=true∧EqOk P d t ks:=fun t ks h=>⟨zk4 h,zk5 h (by omega)⟩
  simp only[zci] at h
  split at h
  case h_2=>cases h
  rename_i ks' hks
  split at h
  case isFalse=>cases h
  cases h
  intro M w w2 cs ds xs ys b hx hy he
  obtain⟨lc,ld⟩:=zff he
  have hxl:=zaj hx
  have hyl:=zaj hy
  have one:∀{kd:Kd},ks=[kd]→∃ c d x y,cs=[c]∧ds=[d]∧xs=[x]∧ys=[y]∧Enc M w c x∧Enc M w d y∧eqk kd c d=some b:=by
   intro kd hkd
   subst hkd
   obtain⟨c,rfl⟩:=List.length_eq_one_iff.1 lc
   obtain⟨d',rfl⟩:=List.length_eq_one_iff.1 ld
   simp only[EncL] at hx hy
   obtain⟨x,_,rfl,h1,rfl⟩:=hx
   obtain⟨y,_,rfl,h2,rfl⟩:=hy
   refine⟨c,d',x,y,rfl,rfl,rfl,rfl,h1,h2,?_⟩
   simp only[eqks] at he
   split at he
   ·rename_i u v hu hv
    simp only[Option.some.injEq] at hv he
    subst hv
    rw[hu,←he,Bool.and_true]
   ·cases he
  split at hks
  ·rename_i k0 hu
   have hag:tyAg P t=false:=by simp[tyAg,hu,TypeDesc.isRow]
   simp only[Option.some.injEq] at hks
   obtain⟨c,d',x,y,rfl,rfl,rfl,rfl,h1,h2,h3⟩:=one hks.symm
   rw[hag]
   cases c<;>cases d'<;>simp only[eqk,reduceCtorEq] at h3
   split at h3
   ·rename_i hk; subst hk
    simp only[Option.some.injEq] at h3
    subst h3
    simp only[Enc] at h1 h2
    subst h1; subst h2
    exact run_equalIn_int w2 d t _ _ _ _ hu
   ·cases h3
  ·rename_i hu
   have hag:tyAg P t=false:=by simp[tyAg,hu,TypeDesc.isRow]
   simp only[Option.some.injEq] at hks
   obtain⟨c,d',x,y,rfl,rfl,rfl,rfl,h1,h2,h3⟩:=one hks.symm
   rw[hag]
   cases c<;>cases d'<;>simp only[eqk,reduceCtorEq,Option.some.injEq] at h3
   subst h3
   simp only[Enc] at h1 h2
   subst h1; subst h2
   exact run_equalIn_bool w2 d t _ _ hu
  ·rename_i hu
   have hag:tyAg P t=false:=by simp[tyAg,hu,TypeDesc.isRow]
   simp only[Option.some.injEq] at hks
   obtain⟨c,d',x,y,rfl,rfl,rfl,rfl,h1,h2,h3⟩:=one hks.symm
   rw[hag]
   cases c<;>cases d'<;>simp only[eqk,reduceCtorEq,Option.some.injEq] at h3
   subst h3
   simp only[Enc] at h1 h2
   subst h1; subst h2
   show(Op.equalIn (d+1) t (.string _) (.string _)).run P w2=_
   rw[run_equalIn_string w2 d t _ _ hu]
   simp
  ·rename_i fs hu
   have hag:tyAg P t=true:=by simp[tyAg,hu,TypeDesc.isRow]
   split at hks
   case isFalse=>cases hks
   rename_i hst
   rw[hag]
   have hfs:P.fieldsOf t=fs:=by simp[Program.fieldsOf,hu]
   have:=run_equalIn_struct (P:=P) w2 d t xs.toArray ys.toArray (by rw[hfs]; exact hu) hst
   simp only[mkR,if_true]
   rw[this,hfs]
   exact zkH sub hks hx hy (Nat.zero_le _) (Nat.zero_le _) (by simpa using he)
  ·rename_i m el hu
   have hag:tyAg P t=true:=by simp[tyAg,hu,TypeDesc.isRow]
   split at hks
   case h_2=>cases hks
   rename_i k1 hk1
   simp only[Option.some.injEq] at hks
   rw[hag]
   obtain⟨hty,heq⟩:=sub _ _ hk1
   have hty':=hty
   unfold tyOk at hty'
   split at hty'
   case h_2=>cases hty'
   rename_i _ i hi0 hi
   simp only[Bool.and_eq_true,beq_iff_eq] at hty'
   have hcell:P.cellsOf el=k1.length:=by
    have:=run_sizeOf (P:=P) w hi
    have h2:(sizeOf el).run P w=.ok i.size w:=by simp[sizeOf,typeInfo,hi]
    rw[h2] at this
    simp only[Result.ok.injEq,and_true] at this
    rw[←this]; exact hty'.1
   have:=run_equalIn_array (P:=P) w2 d xs.toArray ys.toArray hu hi
   simp only[mkR,if_true]
   rw[this,hcell,List.range_eq_range']
   exact zlE hty heq hx hy (by simp) (by simp) (by rw[hks]; simpa using he)
  ·cases hks
theorem zwY{xt yt:TypeId}{x y:Operand}{sx sy:X}{base:Nat}{neg:Bool}{ks:List Kd}(ho:o.op=.binOp (if neg then .neq else .eql) xt x y yt)(hx:chkX M.fm x sx=true)(hy:chkX M.fm y sy=true)
  (hk:zci P 20 xt=some ks) (hg:P.eqGuardType P.depth xt=false) (hag:tyAg P xt=true) (ht:RelT M w e a n) (hr:HRel M w H) (hv:ev1 base e H (.aeq ks neg sx sy)=some (v,H1)):OpOk P o a M H w v H1:=by
 have hx':=zam hx ht
 have hy':=zam hy ht
 simp only[ev1] at hv
 split at hv
 case h_2=>cases hv
 rename_i cs ds hp hq
 split at hv
 case h_2=>cases hv
 rename_i b hb
 cases hv
 rw[hp] at hx'
 rw[hq] at hy'
 simp only[Enc] at hx' hy'
 obtain⟨_,xs,hxe,hxs⟩:=hx'
 obtain⟨_,ys,hye,hys⟩:=hy'
 have he:=zk5 (P:=P) (d:=10000) hk (by omega) M w w cs ds xs ys b hxs hys hb
 rw[hag] at he
 simp only[mkR,if_true] at he
 refine .plain (rv:=.bool (if neg then !b else b)) hr ?_ (by simp only[Enc])
 cases neg
 ·simp only[execOp,ho,hxe,hye,Sem.run_bind,Bool.false_eq_true,if_false,run_eqGuard_agg w _ xt x y _ _ hg,Result.andThen_ok,run_eql_struct,he]; rfl
 ·simp only[execOp,ho,hxe,hye,Sem.run_bind,if_true,run_eqGuard_agg w _ xt x y _ _ hg,Result.andThen_ok,run_neq_struct,he]; rfl
def zrb(P:Program)(k:Nat)(t:TypeId)(y:Operand):Bool :=
 match k,P.underlying t,y with
 | 0,some (.func _ _ _),.const .nilFunc=>true
 | 1,some (.pointer _),.const (.pointer none)=>true
 | 2,some (.map _ _),.const (.map none)=>true
 | _,_,_=>false
theorem zsl(d:Nat){t:TypeId}{p q:Array TypeId}{r:Bool}(hu:P.underlying t=some (.func p q r))(f:Fn)(g h:Array Value):(Op.equalIn (d+1) t (.func f g h) .nilFunc).run P w=.ok false w:=by
 simp[Op.equalIn,run_underlying hu]
theorem zpC(d:Nat){t:TypeId}{p q:Array TypeId}{r:Bool}(hu:P.underlying t=some (.func p q r)):(Op.equalIn (d+1) t .nilFunc .nilFunc).run P w=.ok true w:=by
 simp[Op.equalIn,run_underlying hu]
theorem zpD(d:Nat){t p:TypeId}(hu:P.underlying t=some (.pointer p)):(Op.equalIn (d+1) t (.pointer none) (.pointer none)).run P w=.ok true w:=by
 simp[Op.equalIn,run_underlying hu]
theorem zlF(d:Nat){t p:TypeId}(hu:P.underlying t=some (.pointer p))(b:Addr):(Op.equalIn (d+1) t (.pointer (some b)) (.pointer none)).run P w=.ok false w:=by
 simp[Op.equalIn,run_underlying hu]
theorem zrc(d:Nat){t p q:TypeId}(hu:P.underlying t=some (.map p q))(b:Nat):(Op.equalIn (d+1) t (.map (some b)) (.map none)).run P w=.ok false w:=by
 simp[Op.equalIn,run_underlying hu]
theorem zpE(d:Nat){t p q:TypeId}(hu:P.underlying t=some (.map p q)):(Op.equalIn (d+1) t (.map none) (.map none)).run P w=.ok true w:=by
 simp[Op.equalIn,run_underlying hu]
theorem zfg{xt yt:TypeId}{x y:Operand}{xv yv:Value}{b neg:Bool}(ho:o.op=.binOp (if neg then .neq else .eql) xt x y yt)(h1:a.eval x=xv)(h2:a.eval y=yv)(hr:HRel M w H)
  (hg:∀ op,(eqGuard op xt x y xv yv).run P w=.ok () w) (he:binOp .eql xt xv yv=(do pure (.bool (←Op.equal xt xv yv)))) (hn:binOp .neq xt xv yv=(do pure (.bool (!(←Op.equal xt xv yv)))))
  (hq:∀ d,(Op.equalIn (d+1) xt xv yv).run P w=.ok b w):OpOk P o a M H w (.bool (if neg then !b else b)) H:=by
 have hq':(Op.equal xt xv yv).run P w=.ok b w:=hq 9999
 refine .plain (rv:=.bool (if neg then !b else b)) hr ?_ (by simp only[Enc])
 cases neg
 ·simp only[execOp,ho,h1,h2,Sem.run_bind,Bool.false_eq_true,if_false,hg,Result.andThen_ok,he,hq',Sem.run_pure]
 ·simp only[execOp,ho,h1,h2,Sem.run_bind,if_true,hg,Result.andThen_ok,hn,hq',Sem.run_pure]
theorem ztZ{xt yt:TypeId}{x y:Operand}{sx:X}{base k:Nat}{neg:Bool}(ho:o.op=.binOp (if neg then .neq else .eql) xt x y yt)(hx:chkX M.fm x sx=true)
  (hk:zrb P k xt y=true) (ht:RelT M w e a n) (hr:HRel M w H) (hv:ev1 base e H (.nileq k neg sx)=some (v,H1)):OpOk P o a M H w v H1:=by
 have hx':=zam hx ht
 have tt:neg=(if neg=true then !false else false):=by cases neg<;>rfl
 have ff:(!neg)=(if neg=true then !true else true):=by cases neg<;>rfl
 unfold zrb at hk
 split at hk
 case h_4=>cases hk
 all_goals
  rename_i hu
  simp only[ev1] at hv
  cases hp:sx.ev e<;>rw[hp] at hv hx'<;>simp only[reduceCtorEq,Option.some.injEq,Prod.mk.injEq] at hv
  all_goals
   obtain⟨rfl,rfl⟩:=hv
   simp only[Enc] at hx'
 ·obtain⟨xs,hxe,_⟩:=hx'
  rw[tt]
  exact zfg ho hxe rfl hr (fun op=>by unfold eqGuard; cases op<;>simp) rfl rfl (fun d=>zsl d hu _ _ _)
 ·rw[ff]
  exact zfg ho hx' rfl hr (fun op=>by unfold eqGuard; cases op<;>simp) rfl rfl (fun d=>zpC d hu)
 ·rw[ff]
  exact zfg ho hx' rfl hr (fun op=>by unfold eqGuard; cases op<;>simp) rfl rfl (fun d=>zpD d hu)
 ·obtain⟨_,hxe⟩:=hx'
  rw[tt]
  exact zfg ho hxe rfl hr (fun op=>by unfold eqGuard; cases op<;>simp) rfl rfl (fun d=>zlF d hu _)
 ·obtain⟨_,b,off,hxe,_⟩:=hx'
  rw[tt]
  exact zfg ho hxe rfl hr (fun op=>by unfold eqGuard; cases op<;>simp) rfl rfl (fun d=>zlF d hu _)
 ·obtain⟨_,hxe⟩:=hx'
  rw[tt]
  exact zfg ho hxe rfl hr (fun op=>by unfold eqGuard; cases op<;>simp) rfl rfl (fun d=>zrc d hu _)
 ·rw[ff]
  exact zfg ho hx' rfl hr (fun op=>by unfold eqGuard; cases op<;>simp) rfl rfl (fun d=>zpE d hu)
theorem zp9{mx:Bool}{k:IntKind}:∀{xs:List X} {os:List Operand} {p:Int} {u:V},zbw M.fm os xs=true→RelT M w e a n→mmGo e mx k p xs=some u →
  ((os.map a.eval).foldlM (if mx then Builtin.max2 else Builtin.min2) (.int k p)).run P w=.ok (zbV u) w∧Enc M w u (zbV u)
 | [],[],p,u,_,_,h=>by
  simp only[mmGo,Option.some.injEq] at h
  subst h
  exact⟨by simp[zbV],by simp only[Enc,zbV]⟩
 | [],_::_,_,_,hc,_,_=>by simp[zbw] at hc
 | _::_,[],_,_,hc,_,_=>by simp[zbw] at hc
 | x::xs,o::os,p,u,hc,ht,h=>by
  simp only[zbw,Bool.and_eq_true] at hc
  simp only[mmGo] at h
  split at h
  case h_2=>cases h
  rename_i k' b hx
  split at h
  case isFalse=>cases h
  rename_i hk
  subst hk
  have hxe:=zam hc.1 ht
  rw[hx] at hxe
  simp only[Enc] at hxe
  obtain⟨h1,h2⟩:=zp9 hc.2 ht h
  refine⟨?_,h2⟩
  rw[List.map_cons,List.foldlM_cons,Sem.run_bind,hxe]
  cases mx
  ·simp only[Bool.false_eq_true,if_false] at h1 ⊢
   simp only[Builtin.min2,Sem.run_pure,Result.andThen_ok]
   simpa[mmI] using h1
  ·simp only[if_true] at h1 ⊢
   simp only[Builtin.max2,Sem.run_pure,Result.andThen_ok]
   simpa[mmI] using h1
theorem zAl{mx:Bool}{args:Array Operand}{ts:Array TypeId}{xs:List X}{base:Nat}(ho:o.op=.call { callee:=.builtin (if mx then .max else .min),args:=args,argTypes:=ts })(hx:zbw M.fm args.toList xs=true)
  (ht:RelT M w e a n) (hr:HRel M w H) (hv:ev1 base e H (.mm mx xs)=some (v,H1)):OpOk P o a M H w v H1:=by
 simp only[ev1] at hv
 split at hv
 case h_2=>cases hv
 rename_i x xs
 split at hv
 case h_2=>cases hv
 rename_i k p hp
 rw[Option.map_eq_some_iff] at hv
 obtain⟨u,hu,hv⟩:=hv
 cases hv
 cases hl:args.toList with
 | nil=>rw[hl] at hx; simp[zbw] at hx
 | cons o1 os =>
  rw[hl] at hx
  simp only[zbw,Bool.and_eq_true] at hx
  have h1:=zam hx.1 ht
  rw[hp] at h1
  simp only[Enc] at h1
  obtain⟨h2,h3⟩:=zp9 (P:=P) hx.2 ht hu
  refine .plain (rv:=zbV v) hr ?_ h3
  have hm:List.map a.eval args.toList=.int k p::os.map a.eval:=by rw[hl,List.map_cons,h1]
  cases mx
  ·simp only[Bool.false_eq_true,if_false] at h2 ho
   simp[execOp,ho,resolve,invoke,builtin,Builtin.min_,hm,h2]
  ·simp only[if_true] at h2 ho
   simp[execOp,ho,resolve,invoke,builtin,Builtin.max_,hm,h2]
theorem zvM{t:TypeId}{x y:Operand}{sx sy:X}{base:Nat}(ho:o.op=.index t x y)(hx:chkX M.fm x sx=true)(hy:chkX M.fm y sy=true)(hu:P.underlying t=some .string)
  (ht:RelT M w e a n) (hr:HRel M w H) (hv:ev1 base e H (.sidx sx sy)=some (v,H1)):OpOk P o a M H w v H1:=by
 have hx':=zam hx ht
 have hy':=zam hy ht
 simp only[ev1] at hv
 split at hv
 case h_2=>cases hv
 rename_i s k i hp hq
 split at hv
 case isFalse=>cases hv
 rename_i h0
 split at hv
 case h_2=>cases hv
 rename_i b hb
 cases hv
 rw[hp] at hx'
 rw[hq] at hy'
 simp only[Enc] at hx' hy'
 refine .plain (rv:=.int .u8 b.toNat) hr ?_ (by simp only[Enc])
 have hlt:i.toNat<s.length:=(List.getElem?_eq_some_iff.1 hb).1
 have hi:0≤i∧i<(ByteArray.mk s.toArray).size:=by rw[zer]; omega
 have hg:(ByteArray.mk s.toArray)[i.toNat]'(by rw[zer]; exact hlt)=b:=by
  have:=(List.getElem?_eq_some_iff.1 hb).2
  rw[←this]; rfl
 have:=run_index_string (P:=P) w t ⟨s.toArray⟩ k i hu
 rw[dif_pos hi,hg] at this
 simp[execOp,ho,hx',hy',this]
theorem zvN{t:TypeId}{x:Operand}{sx:X}{lo hi:Option Operand}{slo shi:Option X}{base:Nat}(ho:o.op=.slice t x lo hi none)(hx:chkX M.fm x sx=true)(hu:P.underlying t=some .string)
  (hlo:zbh M.fm lo slo=true) (hhi:zbh M.fm hi shi=true) (ht:RelT M w e a n) (hr:HRel M w H) (hv:ev1 base e H (.sslc sx slo shi)=some (v,H1)):OpOk P o a M H w v H1:=by
 have hx':=zam hx ht
 simp only[ev1] at hv
 split at hv
 case h_2=>cases hv
 rename_i s hp
 split at hv
 case h_2=>cases hv
 rename_i l h m hb
 cases hv
 rw[hp] at hx'
 simp only[Enc] at hx'
 refine .plain (rv:=.string ⟨((s.drop l).take (h-l)).toArray⟩) hr ?_ (by simp only[Enc])
 have hrun:=zgv (P:=P) (w:=w) (isS:=false) (len:=s.length) (cap:=s.length) hlo hhi (mx:=none) (smx:=none) rfl ht hb (Nat.le_refl _)
 simp only[Option.map_none] at hrun
 have hext:(ByteArray.mk s.toArray).extract l h=⟨((s.drop l).take (h-l)).toArray⟩:=by
  apply ByteArray.ext
  simp[ByteArray.data_extract,List.extract_eq_take_drop]
 simp[execOp,ho,hx',Instr.sliceAt,Instr.slice,run_underlying hu,zer,hrun.2.2.2,hext]
end Go.Ev
/- Maps, and the signs of a text one by one. -/
namespace Go.Ev
open Go Go.RowKit
variable {P:Program} {M M':Mm} {H H1:Heap} {w w':World}
variable {e:Env} {a:Act} {n:Nat} {o:Oper} {v:V}
def kyOk(P:Program)(t:TypeId):Ky→Bool
 | .sc .int=>match P.underlying t with|some (.int _)=>true|_=>false
 | .sc .bool=>match P.underlying t with|some .bool=>true|_=>false
 | .sc .str=>match P.underlying t with|some .string=>true|_=>false
 | .row ks=>zci P 20 t==some ks&&tyAg P t
def CkOk(P:Program)(d:Nat)(t:TypeId)(ks:List Kd):Prop :=
 ∀(em:Bool) (M:Mm) (w w2:World) (cs:List V) (xs:List Value) (b:Bool),EncL M w cs xs→eqks ks cs cs=some b→(Instr.checkKey em d t (mkR (tyAg P t) xs)).run P w2=.ok () w2
theorem ckOf:∀{k:Nat} {t:TypeId} {ks:List Kd} {d:Nat},zci P k t=some ks→k≤d→CkOk P d t ks
 | 0,t,ks,d,h,_=>by simp[zci] at h
 | k+1,t,ks,0,h,hd=>by omega
 | k+1,t,ks,d+1,h,hd=>by
  have sub:∀ t ks,zci P k t=some ks→tyOk P t ks.length (tyAg P t)=true∧CkOk P d t ks:=fun t ks h=>⟨zk4 h,ckOf h (by omega)⟩
  simp only[zci] at h
  split at h
  case h_2=>cases h
  rename_i ks' hks
  split at h
  case isFalse=>cases h
  rename_i ht0
  cases h
  clear ht0
  intro em M w w2 cs xs b hx he
  have hxl:=zaj hx
  have plain:(∃ k0,P.underlying t=some (.int k0))∨P.underlying t=some .bool∨P.underlying t=some .string→(Instr.checkKey em (d+1) t (mkR (tyAg P t) xs)).run P w2=.ok () w2:=by
   intro hu
   unfold Instr.checkKey
   rcases hu with⟨k0,hu⟩|hu|hu<;>simp[run_underlying hu]
  split at hks
  ·rename_i k0 hu; exact plain (.inl ⟨k0,hu⟩)
  ·rename_i hu; exact plain (.inr (.inl hu))
  ·rename_i hu; exact plain (.inr (.inr hu))
  ·rename_i fs hu
   have hag:tyAg P t=true:=by simp[tyAg,hu,TypeDesc.isRow]
   split at hks
   case isFalse=>cases hks
   rw[hag]
   simp only[mkR,if_true]
   rw[Instr.checkKey]
   simp only[Sem.run_bind,run_underlying hu,Result.andThen_ok]
   rw[←Array.forIn_toList]
   obtain⟨off,hoff⟩:∃ off,off=0:=⟨0,rfl⟩
   replace he:eqks ks (cs.drop off) (cs.drop off)=some b:=by rw[hoff]; simpa using he
   have hof:off≤xs.length:=by omega
   rw[←hoff] at hks
   clear hoff
   generalize fs.toList=L at hks
   induction L generalizing off ks b with
   | nil=>simp
   | cons f L ih =>
    simp only[zka] at hks
    split at hks
    case isFalse=>cases hks
    rename_i hf
    obtain⟨hname,hoff⟩:=hf
    split at hks
    case h_2=>cases hks
    rename_i k1 hk1
    split at hks
    case h_2=>cases hks
    rename_i rs hrs
    cases hks
    obtain⟨hty,hck⟩:=sub _ _ hk1
    obtain⟨x,y,h1,h2,rfl⟩:=zdT he
    obtain⟨l1,_⟩:=zff h1
    simp only[List.length_take,List.length_drop] at l1
    have px:=zc1 (P:=P) (w:=w2) (off:=off) (xs:=xs) hty (by omega)
    have pc:=hck em M w w2 _ _ x (zbf (zbp hx off) k1.length) h1
    simp only[List.forIn_cons,Sem.run_bind,hname,hoff,ne_eq,not_false_eq_true,if_true,Result.andThen_ok,px,pc,Sem.run_pure]
    have q1:eqks rs (cs.drop (off+k1.length)) (cs.drop (off+k1.length))=some y:=by simpa[List.drop_drop] using h2
    have q2:off+k1.length≤xs.length:=by omega
    exact ih (ks:=rs) (b:=y) (off:=off+k1.length) q1 q2 hrs
  ·rename_i m el hu
   have hag:tyAg P t=true:=by simp[tyAg,hu,TypeDesc.isRow]
   split at hks
   case h_2=>cases hks
   rename_i k1 hk1
   simp only[Option.some.injEq] at hks
   rw[hag]
   obtain⟨hty,hck⟩:=sub _ _ hk1
   have hty':=hty
   unfold tyOk at hty'
   split at hty'
   case h_2=>cases hty'
   rename_i _ i hi0 hi
   simp only[Bool.and_eq_true,beq_iff_eq] at hty'
   have hsz:∀ w3:World,(sizeOf el).run P w3=.ok k1.length w3:=fun w3=>by simp[sizeOf,typeInfo,hi,hty'.1]
   simp only[mkR,if_true]
   rw[Instr.checkKey]
   simp only[Sem.run_bind,run_underlying hu,Result.andThen_ok]
   simp only[Std.Legacy.Range.forIn_eq_forIn_range',Std.Legacy.Range.size,Nat.sub_zero,Nat.add_one_sub_one,Nat.div_one]
   obtain⟨off,hoff⟩:∃ off,off=0:=⟨0,rfl⟩
   replace he:eqks (List.replicate m k1).flatten (cs.drop (off*k1.length)) (cs.drop (off*k1.length))=some b:=by rw[hks,hoff]; simpa using he
   have hof:off*k1.length≤xs.length:=by rw[hoff]; omega
   have hg:List.range' 0 m=List.range' off m:=by rw[hoff]
   rw[hg]
   clear hoff hg hks hu
   induction m generalizing off b with
   | zero=>simp
   | succ m ih =>
    rw[List.replicate_succ,List.flatten_cons] at he
    obtain⟨x,y,h1,h2,rfl⟩:=zdT he
    obtain⟨l1,_⟩:=zff h1
    simp only[List.length_take,List.length_drop] at l1
    have px:=zc1 (P:=P) (w:=w2) (off:=off*k1.length) (xs:=xs) hty (by omega)
    have pc:=hck em M w w2 _ _ x (zbf (zbp hx _) k1.length) h1
    have hnext:(off+1)*k1.length=off*k1.length+k1.length:=by rw[Nat.add_mul,Nat.one_mul]
    rw[List.range'_succ]
    simp only[List.forIn_cons,Sem.run_bind,hsz,Result.andThen_ok,px,pc,Sem.run_pure]
    have q1:eqks (List.replicate m k1).flatten (cs.drop ((off+1)*k1.length)) (cs.drop ((off+1)*k1.length))=some y:=by rw[hnext]; simpa[List.drop_drop] using h2
    have q2:(off+1)*k1.length≤xs.length:=by omega
    exact ih (b:=y) (off:=off+1) q1 q2
  ·cases hks
theorem zjj{t:TypeId}{ky:Ky}(hk:kyOk P t ky=true):∃ d,P.underlying t=some d∧(ky.isRow=true→d.isRow=true):=by
 unfold kyOk at hk
 split at hk
 ·split at hk
  ·exact⟨_,‹_›,fun h=>by cases h⟩
  ·cases hk
 ·split at hk
  ·exact⟨_,‹_›,fun h=>by cases h⟩
  ·cases hk
 ·split at hk
  ·exact⟨_,‹_›,fun h=>by cases h⟩
  ·cases hk
 ·simp only[Bool.and_eq_true,beq_iff_eq] at hk
  have h2:=hk.2
  unfold tyAg at h2
  split at h2
  ·rename_i d hd; exact⟨d,hd,fun _=>h2⟩
  ·cases h2
theorem zop{t:TypeId}{ks:List Kd}(hk:kyOk P t (.row ks)=true):zci P 20 t=some ks∧tyAg P t=true:=by
 simpa[kyOk] using hk
def zcQ(M:Mm)(w:World)(es:List (V×V))(ents:List MapEntry)(i:Nat):Option (Nat×V)→Option (Nat×Value)→Prop
 | none,none=>True
 | some (j,u),some (j',x)=>j=j'∧i≤j∧(∃ p ent,es[j-i]?=some p∧ents[j-i]?=some ent∧p.2=u∧ent.val=x)∧Enc M w u x
 | _,_=>False
theorem zqa{t:TypeId}{ky:Ky}{kv:V}{kx:Value}(hk:kyOk P t ky=true)(hsc:ky.isRow=false)(hkv:Enc M w kv kx):∀{es:List (V×V)} {ents:List MapEntry} {i:Nat} {r:Option (Nat×V)},
  EncL M w (es.map (·.1)) (ents.map (·.key))→EncL M w (es.map (·.2)) (ents.map (·.val))→zbv ky kv es i=some r →
  ∃ d r',P.underlying t=some d∧Instr.findNow d kx ents i=some r'∧zcQ M w es ents i r r'
 | [],ents,i,r,h1,h2,h=>by
  have hl:=zaj h1
  simp only[List.map_nil,List.length_map,List.length_nil] at hl
  have:ents=[]:=List.eq_nil_of_length_eq_zero hl
  subst this
  simp only[zbv,Option.some.injEq] at h
  subst h
  obtain⟨d,hd,_⟩:=zjj hk
  exact⟨d,none,hd,rfl,trivial⟩
 | p::es,[],i,r,h1,h2,h=>by
  have hl:=zaj h1
  simp at hl
 | p::es,ent::ents,i,r,h1,h2,h=>by
  simp only[List.map_cons,EncL] at h1 h2
  obtain⟨x1,xs1,e1,h1,h1'⟩:=h1
  obtain⟨x2,xs2,e2,h2,h2'⟩:=h2
  cases e1
  cases e2
  have hs:∀ b,zbd ky kv p.1=some b→∃ d,P.underlying t=some d∧Instr.sameNow d kx ent.key=some b:=by
   intro b hb
   unfold kyOk at hk
   split at hk
   ·split at hk
    ·rename_i k0 hu
     refine⟨_,hu,?_⟩
     unfold zbd at hb
     cases hc:kv<;>rw[hc] at hb hkv<;>cases hd:p.1<;>rw[hd] at hb h1<;>simp only[eqk,reduceCtorEq] at hb
     simp only[Enc] at hkv h1
     rw[hkv,h1]
     split at hb
     ·rename_i hkk
      simp only[Instr.sameNow,hkk,if_true]; exact hb
     ·cases hb
    ·cases hk
   ·split at hk
    ·rename_i hu
     refine⟨_,hu,?_⟩
     unfold zbd at hb
     cases hc:kv<;>rw[hc] at hb hkv<;>cases hd:p.1<;>rw[hd] at hb h1<;>simp only[eqk,reduceCtorEq] at hb
     simp only[Enc] at hkv h1
     rw[hkv,h1]
     simp only[Instr.sameNow]; exact hb
    ·cases hk
   ·split at hk
    ·rename_i hu
     refine⟨_,hu,?_⟩
     unfold zbd at hb
     cases hc:kv<;>rw[hc] at hb hkv<;>cases hd:p.1<;>rw[hd] at hb h1<;>simp only[eqk,reduceCtorEq] at hb
     simp only[Enc] at hkv h1
     rw[hkv,h1]
     simp only[Instr.sameNow,beq_toListBytes,ByteArray.toList_mk]; exact hb
    ·cases hk
   ·cases hsc
  simp only[zbv] at h
  split at h
  ·rename_i hq
   obtain⟨d,hd,hsn⟩:=hs true hq
   simp only[Option.some.injEq] at h
   subst h
   refine⟨d,some (i,ent.val),hd,by simp only[Instr.findNow,hsn],rfl,Nat.le_refl _,⟨p,ent,by simp,by simp,rfl,rfl⟩,h2⟩
  ·rename_i hq
   obtain⟨d,hd,hsn⟩:=hs false hq
   obtain⟨d',r',hd',hf,hr⟩:=zqa hk hsc hkv h1' h2' h
   rw[hd] at hd'; cases hd'
   refine⟨d,r',hd,by simp only[Instr.findNow,hsn]; exact hf,?_⟩
   cases r with
   | none=>cases r'<;>simp only[zcQ] at hr ⊢
   | some q =>
    obtain⟨j,u⟩:=q
    cases r' with
    | none=>simp only[zcQ] at hr
    | some q' =>
     obtain⟨j',x⟩:=q'
     simp only[zcQ] at hr ⊢
     obtain⟨a1,a2,⟨p',ent',b1,b2,b3,b4⟩,a4⟩:=hr
     refine⟨a1,by omega,⟨p',ent',?_,?_,b3,b4⟩,a4⟩
     ·rw[show j-i=(j-(i+1))+1 by omega]; simpa using b1
     ·rw[show j-i=(j-(i+1))+1 by omega]; simpa using b2
  ·cases h
theorem zoq{t:TypeId}{ky:Ky}{kv:V}{kx:Value}(hk:kyOk P t ky=true)(hkv:Enc M w kv kx)(hg:ky.isRow=true→∃ b,zbd ky kv kv=some b)(em:Bool)(w2:World):(Instr.checkKey em 10000 t kx).run P w2=.ok () w2:=by
 cases ky with
 | sc kd =>
  unfold kyOk at hk
  split at hk
  case h_4=>rename_i heq; cases heq
  all_goals
   split at hk
   ·rename_i hu
    unfold Instr.checkKey
    simp[run_underlying hu]
   ·cases hk
 | row ks =>
  obtain⟨h1,h2⟩:=zop hk
  obtain⟨b,hb⟩:=hg rfl
  cases kv<;>simp only[zbd,reduceCtorEq] at hb
  simp only[Enc] at hkv
  obtain⟨_,xs,rfl,hx⟩:=hkv
  have:=ckOf (P:=P) (d:=10000) h1 (by omega) em M w w2 _ xs b hx hb
  rw[h2] at this
  simpa only[mkR,if_true] using this
theorem zsm{t:TypeId}{ks:List Kd}{cs:List V}{kx:Value}(h1:zci P 20 t=some ks)(h2:tyAg P t=true)(hkv:Enc M w (.agg cs) kx):∀{es:List (V×V)} {ents:List MapEntry} {i:Nat} {r:Option (Nat×V)},
  EncL M w (es.map (·.1)) (ents.map (·.key))→EncL M w (es.map (·.2)) (ents.map (·.val))→zbv (.row ks) (.agg cs) es i=some r →
  ∃ r',(∀ w2,(Instr.findAsking t kx ents i).run P w2=.ok r' w2)∧zcQ M w es ents i r r'
 | [],ents,i,r,e1,e2,h=>by
  have hl:=zaj e1
  simp only[List.map_nil,List.length_map,List.length_nil] at hl
  have:ents=[]:=List.eq_nil_of_length_eq_zero hl
  subst this
  simp only[zbv,Option.some.injEq] at h
  subst h
  exact⟨none,fun w2=>by simp[Instr.findAsking],trivial⟩
 | p::es,[],i,r,e1,e2,h=>by
  have hl:=zaj e1
  simp at hl
 | p::es,ent::ents,i,r,e1,e2,h=>by
  simp only[List.map_cons,EncL] at e1 e2
  obtain⟨x1,xs1,q1,e1,e1'⟩:=e1
  obtain⟨x2,xs2,q2,e2,e2'⟩:=e2
  cases q1
  cases q2
  have hs:∀ b,zbd (.row ks) (.agg cs) p.1=some b→∀ w2,(Op.equal t kx ent.key).run P w2=.ok b w2:=by
   intro b hb w2
   cases hp:p.1<;>rw[hp] at hb e1<;>simp only[zbd,reduceCtorEq] at hb
   simp only[Enc] at hkv e1
   obtain⟨_,xs,rfl,hx⟩:=hkv
   obtain⟨_,ys,hy0,hy⟩:=e1
   rw[hy0]
   have he:=zk5 (P:=P) (d:=10000) h1 (by omega) M w w2 _ _ xs ys b hx hy hb
   rw[h2] at he
   simp only[mkR,if_true] at he
   exact he
  simp only[zbv] at h
  split at h
  ·rename_i hq
   simp only[Option.some.injEq] at h
   subst h
   exact⟨some (i,ent.val),fun w2=>by simp[Instr.findAsking,hs true hq w2],rfl,Nat.le_refl _,⟨p,ent,by simp,by simp,rfl,rfl⟩,e2⟩
  ·rename_i hq
   obtain⟨r',hf,hr⟩:=zsm h1 h2 hkv e1' e2' h
   refine⟨r',fun w2=>by simp[Instr.findAsking,hs false hq w2,hf w2],?_⟩
   cases r with
   | none=>cases r'<;>simp only[zcQ] at hr ⊢
   | some q =>
    obtain⟨j,u⟩:=q
    cases r' with
    | none=>simp only[zcQ] at hr
    | some q' =>
     obtain⟨j',x⟩:=q'
     simp only[zcQ] at hr ⊢
     obtain⟨a1,a2,⟨p',ent',b1,b2,b3,b4⟩,a4⟩:=hr
     refine⟨a1,by omega,⟨p',ent',?_,?_,b3,b4⟩,a4⟩
     ·rw[show j-i=(j-(i+1))+1 by omega]; simpa using b1
     ·rw[show j-i=(j-(i+1))+1 by omega]; simpa using b2
  ·cases h
theorem zpF{d:TypeDesc}(h:d.isRow=true)(a b:Value):Instr.sameNow d a b=none:=by
 cases d<;>simp[TypeDesc.isRow] at h<;>rfl
theorem zk6{t:TypeId}{d:TypeDesc}{kx:Value}{ents:List MapEntry}(hd:P.underlying t=some d)(h:Instr.findNow d kx ents 0=none)(w2:World):(Instr.findKey t kx ents).run P w2=(Instr.findAsking t kx ents).run P w2:=by
 simp[Instr.findKey,run_underlying hd,h]
theorem zgw{t:TypeId}{ky:Ky}{kv:V}{kx:Value}{es:List (V×V)}{ents:List MapEntry}{r:Option (Nat×V)}(hk:kyOk P t ky=true)(hkv:Enc M w kv kx)
  (hg:ky.isRow=true→∃ b,zbd ky kv kv=some b) (h1:EncL M w (es.map (·.1)) (ents.map (·.key))) (h2:EncL M w (es.map (·.2)) (ents.map (·.val))) (h:zbv ky kv es 0=some r) :
  ∃ r',(∀ w,(Instr.findKey t kx ents).run P w=.ok r' w)∧zcQ M w es ents 0 r r':=by
 cases hrow:ky.isRow
 ·obtain⟨d,r',hd,hf,hr⟩:=zqa hk hrow hkv h1 h2 h
  exact⟨r',fun w=>MapKept.run_findKey hd hf,hr⟩
 ·obtain⟨d,hd,hdr⟩:=zjj hk
  have hdi:=hdr hrow
  obtain⟨b,hb⟩:=hg hrow
  cases ky with
  | sc kd=>cases hrow
  | row ks =>
   obtain⟨k1,k2⟩:=zop hk
   cases kv<;>simp only[zbd,reduceCtorEq] at hb
   obtain⟨r',hf,hr⟩:=zsm k1 k2 hkv h1 h2 h
   refine⟨r',fun w2=>?_,hr⟩
   cases ents with
   | nil =>
    have hf2:=hf w2
    rw[MapKept.run_findKey (P:=P) (w:=w2) (l:=[]) (a:=none) hd rfl]
    simpa[Instr.findAsking] using hf2
   | cons ent ents =>
    rw[zk6 hd (by simp only[Instr.findNow,zpF hdi])]
    exact hf w2
def mapOf?(P:Program)(t:TypeId):Option (TypeId×TypeId) :=
 match P.underlying t with
 | some (.map k el)=>some (k,el)
 | _=>none
theorem mapOf?_some{t k el:TypeId}(h:mapOf? P t=some (k,el)):P.underlying t=some (.map k el):=by
 unfold mapOf? at h
 split at h
 ·rename_i h2; cases h; exact h2
 ·cases h
theorem zt0{t:TypeId}{base s:Nat}(ho:o.op=.makeMap t none)(hr:HRel M w H)(hv:ev1 base e H (.mkmap s)=some (v,H1)):OpOk P o a M H w v H1:=by
 simp only[ev1] at hv
 split at hv
 case isFalse=>cases hv
 rename_i hf
 cases hv
 obtain⟨st,ii,r⟩:=zio (ob:=.map #[] 0) (blk0:=.map []) hr hf rfl fun hst hid=>by
  simp only[BRel]
  refine⟨by simp[Mm.alc],#[],?_,by simp only[List.map_nil,EncL],by simp only[List.map_nil,EncL],fun i x h=>by simp at h⟩
  simp only[Mm.alc,if_true]
  exact heap_alloc_new w _
 refine⟨.value (.map (some w.heap.size)),_,_,?_,?_,st,ii,r⟩
 ·simp only[execOp,ho,Option.map_none,Sem.run_bind,run_makeMap,Result.andThen_ok,Sem.run_pure]
 ·simp only[Enc,Mm.alc,decide_true,Bool.true_or,if_true,true_and]
def zrd(P:Program)(t:TypeId)(z:V):Bool :=
 match P.info? t with
 | some i=>match i.zero with
  | some zv=>encS zv z
  | none=>false
 | none=>false
theorem zvO{t kt el:TypeId}{x y:Operand}{sx sy:X}{base:Nat}{ky:Ky}{ok:Bool}{z:V}(ho:o.op=.lookup t x y ok)(hx:chkX M.fm x sx=true)(hy:chkX M.fm y sy=true)
  (hu0:mapOf? P t=some (kt,el)) (hk:kyOk P kt ky=true) (hz:zrd P el z=true) (ht:RelT M w e a n) (hr:HRel M w H) (hv:ev1 base e H (.mget ky ok z sx sy)=some (v,H1)):OpOk P o a M H w v H1:=by
 have hu:=mapOf?_some hu0
 have hx':=zam hx ht
 have hy':=zam hy ht
 obtain⟨i,zv,hi,hzv,hez⟩:∃ i zv,P.info? el=some i∧i.zero=some zv∧encS zv z=true:=by
  unfold zrd at hz
  split at hz
  ·rename_i i hi
   split at hz
   ·rename_i zv hzv; exact⟨i,zv,hi,hzv,hz⟩
   ·cases hz
  ·cases hz
 have hzero:∀ w,(zeroValue el).run P w=.ok zv w:=fun w=>by simp[zeroValue,typeInfo,hi,hzv]
 have hze:Enc M w z zv:=zk1 hez
 simp only[ev1] at hv
 split at hv
 case isTrue=>cases hv
 rename_i hgd
 have hg:ky.isRow=true→∃ b,zbd ky (sy.ev e) (sy.ev e)=some b:=fun h=>by
  cases hq:zbd ky (sy.ev e) (sy.ev e) with
  | none=>exact absurd ⟨h,hq⟩ hgd
  | some b=>exact⟨b,rfl⟩
 split at hv
 ·rename_i id hp
  split at hv
  case h_2=>cases hv
  rename_i es hb
  rw[hp] at hx'
  simp only[Enc] at hx'
  have hb':=hr.rel id _ hb
  simp only[BRel] at hb'
  obtain⟨_,ents,hh,hK,hV,hborn⟩:=hb'
  have hget:=MapKept.run_getObj_map (P:=P) hh
  have hck:=fun em=>zoq hk hy' hg em w
  split at hv
  ·rename_i q u hf
   obtain⟨r',hf',hF⟩:=zgw hk hy' hg hK hV hf
   cases r' with
   | none=>simp only[zcQ] at hF
   | some q' =>
    obtain⟨j',x'⟩:=q'
    simp only[zcQ] at hF
    cases hv
    refine .plain (rv:=if ok then .tuple #[x',.bool true] else x') hr ?_ ?_
    ·simp only[execOp,ho,hx'.2,Instr.lookup,Sem.run_bind,run_underlying hu,Result.andThen_ok,hget,Sem.run_pure,hck,hf']
    ·cases ok
     ·simpa using hF.2.2.2
     ·simp only[if_true,Enc]; exact⟨[x',.bool true],rfl,by simp only[EncL]; exact⟨_,_,rfl,hF.2.2.2,_,_,rfl,by simp only[Enc],rfl⟩⟩
  ·rename_i hf
   obtain⟨r',hf',hF⟩:=zgw hk hy' hg hK hV hf
   cases r' with
   | some q'=>simp only[zcQ] at hF
   | none =>
    cases hv
    refine .plain (rv:=if ok then .tuple #[zv,.bool false] else zv) hr ?_ ?_
    ·simp only[execOp,ho,hx'.2,Instr.lookup,Sem.run_bind,run_underlying hu,Result.andThen_ok,hget,Sem.run_pure,hck,hf',hzero]
    ·cases ok
     ·simpa using hze
     ·simp only[if_true,Enc]; exact⟨[zv,.bool false],rfl,by simp only[EncL]; exact⟨_,_,rfl,hze,_,_,rfl,by simp only[Enc],rfl⟩⟩
  ·cases hv
 ·rename_i hp
  cases hv
  rw[hp] at hx'
  simp only[Enc] at hx'
  have hck:=fun em=>zoq hk hy' hg em w
  have hnil:∀ w,(Instr.findKey kt (a.eval y) []).run P w=.ok none w:=fun w=>by
   obtain⟨d,hd,_⟩:=zjj hk
   exact MapKept.run_findKey hd rfl
  refine .plain (rv:=if ok then .tuple #[zv,.bool false] else zv) hr ?_ ?_
  ·simp only[execOp,ho,hx',Instr.lookup,Sem.run_bind,run_underlying hu,Result.andThen_ok,Sem.run_pure,hck,hnil,hzero]
  ·cases ok
   ·simpa using hze
   ·simp only[if_true,Enc]; exact⟨[zv,.bool false],rfl,by simp only[EncL]; exact⟨_,_,rfl,hze,_,_,rfl,by simp only[Enc],rfl⟩⟩
 ·cases hv
theorem zor{kv kv':V}{x x':Value}{k:Kd}(h:eqk k kv kv'=some true)(h1:Enc M w kv x)(h2:Enc M w kv' x'):Instr.sameBits 10000 x' x=true:=by
 cases k<;>cases kv<;>cases kv'<;>simp only[eqk,reduceCtorEq,Option.some.injEq] at h
 ·split at h
  ·rename_i hk
   subst hk
   simp at h; subst h
   simp only[Enc] at h1 h2
   subst h1; subst h2
   simp[Instr.sameBits]
  ·cases h
 ·simp at h; subst h
  simp only[Enc] at h1 h2
  subst h1; subst h2
  simp[Instr.sameBits]
 ·simp at h; subst h
  simp only[Enc] at h1 h2
  subst h1; subst h2
  simp only[Instr.sameBits,beq_toListBytes,beq_self_eq_true]
theorem zpG{kv kv':V}{x x':Value}{k:Kd}(n:Nat)(h:eqk k kv kv'=some true)(h1:Enc M w kv x)(h2:Enc M w kv' x'):Instr.sameBits n x' x=true:=by
 cases k<;>cases kv<;>cases kv'<;>simp only[eqk,reduceCtorEq,Option.some.injEq] at h
 ·split at h
  ·rename_i hk
   subst hk
   simp at h; subst h
   simp only[Enc] at h1 h2
   subst h1; subst h2
   simp[Instr.sameBits]
  ·cases h
 ·simp at h; subst h
  simp only[Enc] at h1 h2
  subst h1; subst h2
  simp[Instr.sameBits]
 ·simp at h; subst h
  simp only[Enc] at h1 h2
  subst h1; subst h2
  simp only[Instr.sameBits,beq_toListBytes,beq_self_eq_true]
theorem zjk(n:Nat):∀{ks:List Kd} {cs ds:List V} {xs ys:List Value},eqks ks cs ds=some true→EncL M w cs xs→EncL M w ds ys→ys.length=xs.length∧((ys.zip xs).all fun(p:Value×Value)=>Instr.sameBits n p.1 p.2)=true
 | [],[],[],xs,ys,_,hx,hy=>by
  simp only[EncL] at hx hy
  subst hx; subst hy
  exact⟨rfl,rfl⟩
 | [],[],_::_,_,_,h,_,_=>by simp[eqks] at h
 | [],_::_,_,_,_,h,_,_=>by simp[eqks] at h
 | _::_,[],_,_,_,h,_,_=>by simp[eqks] at h
 | _::_,_::_,[],_,_,h,_,_=>by simp[eqks] at h
 | k::ks,c::cs,d::ds,xs,ys,h,hx,hy=>by
  simp only[EncL] at hx hy
  obtain⟨x,xs',rfl,h1,hx⟩:=hx
  obtain⟨y,ys',rfl,h2,hy⟩:=hy
  simp only[eqks] at h
  split at h
  case h_2=>cases h
  rename_i u v hu hv
  simp only[Option.some.injEq,Bool.and_eq_true] at h
  obtain⟨rfl,rfl⟩:=h
  obtain⟨i1,i2⟩:=zjk n hv hx hy
  exact⟨by simp[i1],by simp only[List.zip_cons_cons,List.all_cons,Bool.and_eq_true]; exact⟨zpG n hu h1 h2,i2⟩⟩
theorem zpH{ky:Ky}{kv kv':V}{x x':Value}(h:zbd ky kv kv'=some true)(h1:Enc M w kv x)(h2:Enc M w kv' x'):Instr.sameBits 10000 x' x=true:=by
 cases ky with
 | sc kd=>exact zor (k:=kd) h h1 h2
 | row ks =>
  cases kv<;>cases kv'<;>simp only[zbd,reduceCtorEq] at h
  simp only[Enc] at h1 h2
  obtain⟨_,xs,rfl,hx⟩:=h1
  obtain⟨_,ys,rfl,hy⟩:=h2
  obtain⟨i1,i2⟩:=zjk 9999 h hx hy
  rw[Instr.sameBits]
  simp only[List.size_toArray,i1,beq_self_eq_true,Bool.true_and]
  exact i2
theorem zos{ky:Ky}{kv:V}:∀{es:List (V×V)} {i j:Nat} {u:V},zbv ky kv es i=some (some (j,u))→i≤j∧∃ p,es[j-i]?=some p∧p.2=u∧zbd ky kv p.1=some true
 | [],i,j,u,h=>by simp[zbv] at h
 | p::es,i,j,u,h=>by
  simp only[zbv] at h
  split at h
  ·rename_i hq
   simp only[Option.some.injEq,Prod.mk.injEq] at h
   obtain⟨rfl,rfl⟩:=h
   exact⟨Nat.le_refl _,p,by simp,rfl,hq⟩
  ·obtain⟨h1,q,h2,h3⟩:=zos h
   refine⟨by omega,q,?_,h3⟩
   rw[show j-i=(j-(i+1))+1 by omega]; simpa using h2
  ·cases h
theorem zqb{id:Nat}{es fs:List (V×V)}{ents:Array MapEntry}(hr:HRel M w H)(hb:H[id]?=some (some (.map es)))
  (hK:EncL M w (fs.map (·.1)) (ents.toList.map (·.key))) (hV:EncL M w (fs.map (·.2)) (ents.toList.map (·.val))) (hB:∀(i:Nat) (x:MapEntry),ents[i]?=some x→x.born=i) :
  Stp M H w (M.limit (M.j id) 0) (H.set id (some (.map fs))) { w with heap:=w.heap.setIfInBounds (M.j id) (.map ents fs.length) }∧Ids M (M.limit (M.j id) 0) H.length ∧
   HRel (M.limit (M.j id) 0) { w with heap:=w.heap.setIfInBounds (M.j id) (.map ents fs.length) } (H.set id (some (.map fs))):=by
 have hb':=hr.rel id _ hb
 simp only[BRel] at hb'
 obtain⟨hl0,e0,hh,_⟩:=hb'
 have hs:=MapKept.heap_set (o':=.map ents fs.length) hh
 refine zj8 hr hb rfl rfl hl0 0 rfl rfl rfl (by simp) hs.2 fun hst hid=>?_
 simp only[BRel]
 exact⟨by simp[Mm.limit],ents,hs.1,EncL.step hst hr hid hK,EncL.step hst hr hid hV,hB⟩
theorem zot{cs:List V}{xs:List Value}(h:EncL M w cs xs){i:Nat}{c:V}{x:Value}(hc:Enc M w c x):EncL M w (cs.set i c) (xs.set i x):=by
 have hl:=zaj h
 refine zcl (by simp[hl]) fun j d y hd hy=>?_
 rw[List.getElem?_set] at hd hy
 by_cases e:i=j
 ·subst e
  simp only[if_true] at hd hy
  split at hd
  ·rename_i h1
   rw[if_pos (by rw[hl]; exact h1)] at hy
   cases hd; cases hy; exact hc
  ·cases hd
 ·rw[if_neg e] at hd hy
  obtain⟨y',hy',he⟩:=zaN h hd
  rw[hy] at hy'; cases hy'; exact he
theorem zqc{t kt el:TypeId}{x y z:Operand}{sx sy sz:X}{base:Nat}{ky:Ky}(ho:o.op=.insert t x y z∨o.op=.mapUpdate t x y z)(hx:chkX M.fm x sx=true)(hy:chkX M.fm y sy=true)(hz:chkX M.fm z sz=true)
  (hu0:mapOf? P t=some (kt,el)) (hk:kyOk P kt ky=true) (ht:RelT M w e a n) (hr:HRel M w H) (hv:ev1 base e H (.mput ky sx sy sz)=some (v,H1)):OpOk P o a M H w v H1:=by
 have hu:=mapOf?_some hu0
 have hx':=zam hx ht
 have hy':=zam hy ht
 have hz':=zam hz ht
 simp only[ev1] at hv
 split at hv
 case h_2=>cases hv
 rename_i id hp
 split at hv
 case isTrue=>cases hv
 rename_i hkk
 split at hv
 case h_2=>cases hv
 rename_i es hb
 rw[hp] at hx'
 simp only[Enc] at hx'
 have hb':=hr.rel id _ hb
 simp only[BRel] at hb'
 obtain⟨_,ents,hh,hK,hV,hborn⟩:=hb'
 have hlen:ents.size=es.length:=by have:=zaj hK; simpa using this
 have hget:=MapKept.run_getObj_map (P:=P) hh
 have hg:ky.isRow=true→∃ b,zbd ky (sy.ev e) (sy.ev e)=some b:=fun _=>by
  cases hq:zbd ky (sy.ev e) (sy.ev e) with
  | none=>exact absurd (.inl hq) hkk
  | some b=>exact⟨b,rfl⟩
 have hck:=fun em=>zoq hk hy' hg em w
 have hset:=fun ob=>MapKept.run_setObj_map (P:=P) ob hh
 have hex:∀ w',(Instr.mapUpdate t (a.eval x) (a.eval y) (a.eval z)).run P w=.ok () w'→(execOp a.eval o).run P w=.ok .skip w':=by
  intro w' h
  rcases ho with ho|ho<;>simp only[execOp,ho,Sem.run_bind,h,Result.andThen_ok,Sem.run_pure]
 split at hv
 ·rename_i i u hf
  obtain⟨r',hf',hF⟩:=zgw hk hy' hg hK hV hf
  cases r' with
  | none=>simp only[zcQ] at hF
  | some q' =>
   obtain⟨j',x'⟩:=q'
   simp only[zcQ] at hF
   obtain⟨rfl,_,⟨p,ent,hp1,hp2,_,_⟩,_⟩:=hF
   obtain⟨_,p',hp',_,hkeq⟩:=zos hf
   rw[hp'] at hp1; cases hp1
   simp only[Nat.sub_zero] at hp' hp2
   cases hv
   have hkenc:Enc M w p.1 ent.key:=by
    obtain⟨y2,h2,h3⟩:=zaN hK (i:=i) (c:=p.1) (by rw[List.getElem?_map,hp']; rfl)
    rw[List.getElem?_map,hp2] at h2
    cases h2; exact h3
   have hsb:=zpH hkeq hy' hkenc
   have hents:ents[i]?=some ent:=by rw[←Array.getElem?_toList]; exact hp2
   have hmod:(ents.modify i fun en=>{ en with key:=a.eval y,val:=a.eval z }).toList=ents.toList.set i { ent with key:=a.eval y,val:=a.eval z }:=by
    apply List.ext_getElem?
    intro k
    rw[Array.getElem?_toList,Array.getElem?_modify,List.getElem?_set]
    by_cases hki:i=k
    ·subst hki
     have hlt:i<ents.toList.length:=(List.getElem?_eq_some_iff.1 hp2).1
     rw[if_pos rfl,if_pos rfl,if_pos hlt,hents]; rfl
    ·rw[if_neg hki,if_neg hki,Array.getElem?_toList]
   obtain⟨st,ii,r⟩:=zqb (fs:=es.set i (sy.ev e,sz.ev e)) (ents:=ents.modify i fun en=>{ en with key:=a.eval y,val:=a.eval z }) hr hb
    (by rw[hmod,List.map_set,List.map_set]; exact zot hK hy') (by rw[hmod,List.map_set,List.map_set]; exact zot hV hz')
    (fun k x hx=>by
     rw[←Array.getElem?_toList,hmod,List.getElem?_set] at hx
     split at hx
     ·rename_i hki
      subst hki
      split at hx
      ·cases hx; exact hborn _ ent hents
      ·cases hx
     ·rw[Array.getElem?_toList] at hx; exact hborn k x hx)
   refine⟨.skip,_,_,hex _ ?_,rfl,st,ii,r⟩
   simp only[Instr.mapUpdate,hx'.2,Sem.run_bind,run_underlying hu,Result.andThen_ok,hget,hck,hf',Instr.keyThatStays,hents,Option.map_some,Option.getD_some,hsb,if_true,Sem.run_pure,hset,List.length_set]
 ·rename_i hf
  obtain⟨r',hf',hF⟩:=zgw hk hy' hg hK hV hf
  cases r' with
  | some q'=>simp only[zcQ] at hF
  | none =>
   cases hv
   obtain⟨st,ii,r⟩:=zqb (fs:=es++[(sy.ev e,sz.ev e)]) (ents:=ents.push { key:=a.eval y,val:=a.eval z,born:=es.length }) hr hb
    (by rw[List.map_append,Array.toList_push,List.map_append]; exact zbs hK (by simp only[List.map_cons,List.map_nil,EncL]; exact⟨_,_,rfl,hy',rfl⟩))
    (by rw[List.map_append,Array.toList_push,List.map_append]; exact zbs hV (by simp only[List.map_cons,List.map_nil,EncL]; exact⟨_,_,rfl,hz',rfl⟩))
    (fun k x hx=>by
     rw[Array.getElem?_push] at hx
     split at hx
     ·rename_i hk2; cases hx; rw[←hlen]; exact hk2.symm
     ·exact hborn k x hx)
   refine⟨.skip,_,_,hex _ ?_,rfl,st,ii,r⟩
   simp only[Instr.mapUpdate,hx'.2,Sem.run_bind,run_underlying hu,Result.andThen_ok,hget,hck,hf',hset,List.length_append,List.length_cons,List.length_nil]
 ·cases hv
theorem zwZ{t:TypeId}{x:Operand}{sx:X}{base s:Nat}(ho:o.op=.range t x)(hx:chkX M.fm x sx=true)(hu:P.underlying t=some .string)(ht:RelT M w e a n)(hr:HRel M w H)
  (hv:ev1 base e H (.rng s sx)=some (v,H1)):OpOk P o a M H w v H1:=by
 have hx':=zam hx ht
 simp only[ev1] at hv
 split at hv
 case h_2=>cases hv
 rename_i tx hp
 split at hv
 case isFalse=>cases hv
 rename_i hf
 cases hv
 rw[hp] at hx'
 simp only[Enc] at hx'
 obtain⟨st,ii,r⟩:=zio (ob:=.stringIter ⟨tx.toArray⟩ 0) (blk0:=.siter tx 0) hr hf rfl fun hst hid=>by
  simp only[BRel]
  refine⟨by simp[Mm.alc],?_⟩
  simp only[Mm.alc,if_true]
  exact heap_alloc_new w _
 refine⟨.value (.pointer (some ⟨w.heap.size,0,none⟩)),_,_,?_,?_,st,ii,r⟩
 ·simp[execOp,ho,hx',Instr.range,run_underlying hu]
 ·simp only[Enc,Mm.alc,decide_true,Bool.true_or,if_true,true_and]
theorem zw0{x:Operand}{sx:X}{base:Nat}(ho:o.op=.next x true)(hx:chkX M.fm x sx=true)(ht:RelT M w e a n)(hr:HRel M w H)
  (hv:ev1 base e H (.nxt sx)=some (v,H1)):OpOk P o a M H w v H1:=by
 have hx':=zam hx ht
 simp only[ev1] at hv
 split at hv
 case h_2=>cases hv
 rename_i id hp
 split at hv
 case h_2=>cases hv
 rename_i tx pos hb
 rw[hp] at hx'
 simp only[Enc] at hx'
 have hb':=hr.rel id _ hb
 simp only[BRel] at hb'
 obtain⟨hl0,hh⟩:=hb'
 split at hv
 ·rename_i hlt
  cases hv
  have hrun:=Lib.run_next_any_at (P:=P) w (M.j id) ⟨tx.toArray⟩ pos o.type hh (by rw[zer]; exact hlt)
  have hs:=MapKept.heap_set (o':=.stringIter ⟨tx.toArray⟩ (pos+(Utf8.decode ⟨tx.toArray⟩ pos).2)) hh
  obtain⟨st,ii,r⟩:=zj8 (blk1:=.siter tx (pos+(Utf8.decode ⟨tx.toArray⟩ pos).2)) (w':=w.iterAt (M.j id) ⟨tx.toArray⟩ (pos+(Utf8.decode ⟨tx.toArray⟩ pos).2)) hr hb rfl rfl hl0 0 rfl rfl rfl (by simp[World.iterAt]) hs.2 fun hst hid=>by
   simp only[BRel]
   exact⟨by simp[Mm.limit],hs.1⟩
  refine⟨.value (.tuple #[.bool true,.int .i64 pos,.int .i32 (Utf8.decode ⟨tx.toArray⟩ pos).1]),_,_,?_,?_,st,ii,r⟩
  ·simp only[execOp,ho,hx'.2,Sem.run_bind,hrun,Result.andThen_ok,Sem.run_pure]
  ·simp only[Enc]
   exact⟨[.bool true,.int .i64 pos,.int .i32 (Utf8.decode ⟨tx.toArray⟩ pos).1],rfl,by simp[EncL,Enc]⟩
 ·rename_i hlt
  cases hv
  have hrun:=Lib.run_next_end_at (P:=P) w (M.j id) ⟨tx.toArray⟩ pos o.type hh (by rw[zer]; exact hlt)
  refine .plain (rv:=.tuple #[.bool false]) hr ?_ ?_
  ·simp only[execOp,ho,hx'.2,Sem.run_bind,hrun,Result.andThen_ok,Sem.run_pure]
  ·simp only[Enc]
   exact⟨[.bool false],rfl,by simp[EncL,Enc]⟩
end Go.Ev
