/- What the functions of bits compute: Do, Eval, Apart. -/
import Derived.Test.YtogjnjnabikdpaaGreatDoorEvXW
set_option linter.unusedSimpArgs false
set_option linter.unusedVariables false
set_option maxHeartbeats 4000000
set_option maxRecDepth 10000
namespace Go.Ev
open Go Go.RowKit
variable {G:Tbl}
theorem zlJ{vs:List Int}{tab:List Nat}(h:∀ w∈tab,w<4294967296)(p:Int→Bool):sem vs tab p<4294967296:=by
 simp only[sem,List.getD_eq_getElem?_getD]
 cases hq:tab[idx vs p]? with
 | none=>simp
 | some w=>exact h w (List.mem_of_getElem? hq)
theorem zmp(hG:HasBits G)(kind:Int)(fv gv vs:List Int)(ft gt:List Nat)(b3 b5 b6:Option Blk)(x:V)(n:Nat)
  (hf:ft.length=2^fv.length) (hg:gt.length=2^gv.length) (hft:∀ w∈ft,w<4294967296) (hgt:∀ w∈gt,w<4294967296)
  (hfs:fv.Sublist vs) (hgs:gv.Sublist vs) (hnd:vs.Nodup) (hv:vs.length≤30) (hn:n<2^31)
  (H:Heap) (hH:H=[some (.cells [.int .i64 kind]),some (.cells [.vs (ints .i64 fv) .no,.vs (nats .u32 ft) .no]),some (.cells [.vs (ints .i64 gv) .no,.vs (nats .u32 gt) .no]),b3,some (.cells [.vs (ints .i64 vs) .no,x]),b5,b6]) :
  Big G (.F 108 [.int .i64 n,.ptr 0 0,.ptr 1 0,.ptr 4 0,.ptr 2 0] H (.int .u32 ((doW kind (sem fv ft (say vs n)) (sem gv gt (say vs n))).1:Nat)) H):=by
 subst hH
 refine F_of hG.h_bits_Do_1 (Nat.le_of_ble_eq_true rfl) ?_
 simp
 refine zab (zoa hG fv ft vs n hf hfs hnd hv hn) ?_
 simp
 refine zab (zoa hG gv gt vs n hg hgs hnd hv hn) ?_
 simp
 refine zab (zix hG.toHasWd kind _ _ (zlJ hft _) (zlJ hgt _)) ?_
 simp
def DoOk(kind:Int)(fv gv:List Int)(ft gt:List Nat):Prop:=(kind=68∨kind=84∨kind=164)∧Right fv ft∧Right gv gt∧(mer fv gv).length≤4
theorem zwT{kind:Int}{a b:Nat}(h:kind=68∨kind=84∨kind=164)(ha:a<4294967296)(hb:b<4294967296):(doW kind a b).1<4294967296:=by
 rcases h with rfl|rfl|rfl<;>simp[doW]
 ·exact Nat.or_lt_two_pow (n:=32) ha hb
 ·exact Nat.and_lt_two_pow (n:=32) _ hb
 ·exact Nat.xor_lt_two_pow (n:=32) ha hb
theorem zu9(hG:HasBits G)(kind:Int)(fv gv:List Int)(ft gt:List Nat)(hfl:fv.length≤9223372036854775807)(hgl:gv.length≤9223372036854775807)(hfl':ft.length≤9223372036854775807)(hgl':gt.length≤9223372036854775807)
  (hft:∀ w∈ft,w<4294967296) (hgt:∀ w∈gt,w<4294967296) :
  ∃ r,FP G 109 [.int .i64 kind,FV fv ft,FV gv gt] r ∧
   ((¬DoOk kind fv gv ft gt∧r=.tup [FV [] [],.bool false]) ∨
    (DoOk kind fv gv ft gt∧∃ vs tab,r=.tup [FV vs tab,.bool true]∧Right vs tab∧(∀ w∈tab,w<4294967296)∧∀ p,sem vs tab p=(doW kind (sem fv ft p) (sem gv gt p)).1)):=by
 refine zj1 hG.h_bits_Do (Nat.le_of_ble_eq_true rfl) ?_
 simp[FV]
 by_cases hk:kind=68∨kind=84∨kind=164
 case neg =>
  have h1:kind≠68:=fun e=>hk (.inl e)
  have h2:kind≠84:=fun e=>hk (.inr (.inl e))
  have h3:kind≠164:=fun e=>hk (.inr (.inr e))
  simp[h1,h2,h3,bneT,DoOk,FV]
 have bad:∀ b:Bool,zbJ fv ft=b→True:=fun _ _=>trivial
 cases hrf:zbJ fv ft
 ·have hnr:¬Right fv ft:=fun h=>by rw[zcv.2 h] at hrf; cases hrf
  rcases hk with rfl|rfl|rfl<;>(simp; refine zab (zbK hG fv ft hfl hfl') ?_; simp[hrf,DoOk,hnr,FV])
 cases hrg:zbJ gv gt
 ·have hnr:¬Right gv gt:=fun h=>by rw[zcv.2 h] at hrg; cases hrg
  rcases hk with rfl|rfl|rfl<;>(simp; refine zab (zbK hG fv ft hfl hfl') ?_; simp[hrf]; refine zab (zbK hG gv gt hgl hgl') ?_; simp[hrg,DoOk,hnr,FV])
 have Rf:=zcv.1 hrf
 have Rg:=zcv.1 hrg
 have hml:=zqt fv gv
 have h4f:=Rf.1
 have h4g:=Rg.1
 by_cases hm:(mer fv gv).length≤4
 case neg =>
  rcases hk with rfl|rfl|rfl<;>(simp; refine zab (zbK hG fv ft hfl hfl') ?_; simp[hrf]; refine zab (zbK hG gv gt hgl hgl') ?_; simp[hrg]; refine zab (zhw hG fv gv (by omega)) ?_; simp(disch:=omega)[ltT,DoOk,hm,FV])
 have hup:=zsM fv gv Rf.up Rg.up
 have hnd:=hup.nodup
 have hfs:fv.Sublist (mer fv gv):=ziv Rf.up hup fun v hv=>(zcO _ _).2 (.inl hv)
 have hgs:gv.Sublist (mer fv gv):=ziv Rg.up hup fun v hv=>(zcO _ _).2 (.inr hv)
 have hok:DoOk kind fv gv ft gt:=⟨hk,Rf,Rg,hm⟩
 have h16:2^(mer fv gv).length≤16:=by rw[show 16=2^4 from rfl]; exact Nat.pow_le_pow_right (by decide) hm
 obtain⟨vs',tab',hp,hsub,htl,hsem,hdep⟩:=zuw hG (mer fv gv) ((List.range (2^(mer fv gv).length)).map fun n=>(doW kind (sem fv ft (say (mer fv gv) n)) (sem gv gt (say (mer fv gv) n))).1) (by simp) hm hnd
 have hval:∀ p,sem vs' tab' p=(doW kind (sem fv ft p) (sem gv gt p)).1:=fun p=>by
  rw[hsem]
  have hlt:=zgm (mer fv gv) p
  have e1:sem fv ft (say (mer fv gv) (idx (mer fv gv) p))=sem fv ft p:=zqv fun v hv=>zqu ((zcO _ _).2 (.inl hv)) p
  have e2:sem gv gt (say (mer fv gv) (idx (mer fv gv) p))=sem gv gt p:=zqv fun v hv=>zqu ((zcO _ _).2 (.inr hv)) p
  rw[sem]
  simp[List.getD_eq_getElem?_getD,hlt,e1,e2]
 have hup':Up vs':=hup.sublist hsub
 have hR:Right vs' tab':=by
  refine Right.of (Nat.le_trans hsub.length_le hm) htl hup' (fun v hv=>?_) hdep
  rcases(zcO _ _).1 (hsub.subset hv) with h|h
  ·exact Rf.mem h
  ·exact Rg.mem h
 have hw:∀ w∈tab',w<4294967296:=fun w hw=>by
  obtain⟨n,hn,rfl⟩:=List.mem_iff_getElem.1 hw
  rw[zwc hup'.nodup htl hn,hval]
  exact zwT hk (zlJ hft _) (zlJ hgt _)
 have fin:DoOk kind fv gv ft gt∧∃ vs tab,V.tup [FV vs' tab',.bool true]=.tup [FV vs tab,.bool true]∧Right vs tab∧(∀ w∈tab,w<4294967296)∧∀ p,sem vs tab p=(doW kind (sem fv ft p) (sem gv gt p)).1 :=
  ⟨hok,vs',tab',rfl,hR,hw,hval⟩
 rcases hk with rfl|rfl|rfl
 ·simp; refine zab (zbK hG fv ft hfl hfl') ?_; simp[hrf]; refine zab (zbK hG gv gt hgl hgl') ?_; simp[hrg]
  refine zab (zhw hG fv gv (by omega)) ?_
  simp(disch:=omega)[ltT,ltF,shl1,-Int.natCast_pow]
  refine W_up (2^(mer fv gv).length) (fun n=>[(6,.ptr 3 0),(8,.ptr 4 0),(9,.fn 108 [.ptr 0 0,.ptr 1 0,.ptr 4 0,.ptr 2 0]),(47,.int .i64 (2^(mer fv gv).length:Nat)),(48,.int .i64 n)])
   (fun n=>[some (.cells [.int .i64 68]),some (.cells [.vs (ints .i64 fv) .no,.vs (nats .u32 ft) .no]),some (.cells [.vs (ints .i64 gv) .no,.vs (nats .u32 gt) .no]),some (.cells [.vs [] .full,.vs [] .full]),
    some (.cells [.vs (ints .i64 (mer fv gv)) .no,.vs (nats .u32 ((List.range n).map fun n=>(doW 68 (sem fv ft (say (mer fv gv) n)) (sem gv gt (say (mer fv gv) n))).1)) (.own 5)]),some (.zone n)])
   (fun _=>True) ?_ ?_
  ·simp[zaa,zac,-Int.natCast_pow]
  intro n hn _
  by_cases hlt:n<2^(mer fv gv).length
  ·simp(disch:=omega)[ltT,-Int.natCast_pow,-Int.natCast_add]
   refine zaF (zmp hG 68 fv gv (mer fv gv) ft gt _ _ _ _ n Rf.2.1 Rg.2.1 hft hgt hfs hgs hnd (by omega) (by omega) _ rfl) (by simp[zac]) ?_
   simp(disch:=omega)[leTn,zag,zac,zaa,hlt,List.range_succ,-Int.natCast_pow,-Int.natCast_add]
  ·have hne:n=2^(mer fv gv).length:=by omega
   subst hne
   simp(disch:=omega)[ltF,-Int.natCast_pow]
   refine zab hp ?_
   simp[FV]
   exact⟨fin.1,vs',tab',⟨rfl,rfl⟩,hR,hw,hval⟩
 ·simp; refine zab (zbK hG fv ft hfl hfl') ?_; simp[hrf]; refine zab (zbK hG gv gt hgl hgl') ?_; simp[hrg]
  refine zab (zhw hG fv gv (by omega)) ?_
  simp(disch:=omega)[ltT,ltF,shl1,-Int.natCast_pow]
  refine W_up (2^(mer fv gv).length) (fun n=>[(6,.ptr 3 0),(8,.ptr 4 0),(9,.fn 108 [.ptr 0 0,.ptr 1 0,.ptr 4 0,.ptr 2 0]),(47,.int .i64 (2^(mer fv gv).length:Nat)),(48,.int .i64 n)])
   (fun n=>[some (.cells [.int .i64 84]),some (.cells [.vs (ints .i64 fv) .no,.vs (nats .u32 ft) .no]),some (.cells [.vs (ints .i64 gv) .no,.vs (nats .u32 gt) .no]),some (.cells [.vs [] .full,.vs [] .full]),
    some (.cells [.vs (ints .i64 (mer fv gv)) .no,.vs (nats .u32 ((List.range n).map fun n=>(doW 84 (sem fv ft (say (mer fv gv) n)) (sem gv gt (say (mer fv gv) n))).1)) (.own 5)]),some (.zone n)])
   (fun _=>True) ?_ ?_
  ·simp[zaa,zac,-Int.natCast_pow]
  intro n hn _
  by_cases hlt:n<2^(mer fv gv).length
  ·simp(disch:=omega)[ltT,-Int.natCast_pow,-Int.natCast_add]
   refine zaF (zmp hG 84 fv gv (mer fv gv) ft gt _ _ _ _ n Rf.2.1 Rg.2.1 hft hgt hfs hgs hnd (by omega) (by omega) _ rfl) (by simp[zac]) ?_
   simp(disch:=omega)[leTn,zag,zac,zaa,hlt,List.range_succ,-Int.natCast_pow,-Int.natCast_add]
  ·have hne:n=2^(mer fv gv).length:=by omega
   subst hne
   simp(disch:=omega)[ltF,-Int.natCast_pow]
   refine zab hp ?_
   simp[FV]
   exact⟨fin.1,vs',tab',⟨rfl,rfl⟩,hR,hw,hval⟩
 ·simp; refine zab (zbK hG fv ft hfl hfl') ?_; simp[hrf]; refine zab (zbK hG gv gt hgl hgl') ?_; simp[hrg]
  refine zab (zhw hG fv gv (by omega)) ?_
  simp(disch:=omega)[ltT,ltF,shl1,-Int.natCast_pow]
  refine W_up (2^(mer fv gv).length) (fun n=>[(6,.ptr 3 0),(8,.ptr 4 0),(9,.fn 108 [.ptr 0 0,.ptr 1 0,.ptr 4 0,.ptr 2 0]),(47,.int .i64 (2^(mer fv gv).length:Nat)),(48,.int .i64 n)])
   (fun n=>[some (.cells [.int .i64 164]),some (.cells [.vs (ints .i64 fv) .no,.vs (nats .u32 ft) .no]),some (.cells [.vs (ints .i64 gv) .no,.vs (nats .u32 gt) .no]),some (.cells [.vs [] .full,.vs [] .full]),
    some (.cells [.vs (ints .i64 (mer fv gv)) .no,.vs (nats .u32 ((List.range n).map fun n=>(doW 164 (sem fv ft (say (mer fv gv) n)) (sem gv gt (say (mer fv gv) n))).1)) (.own 5)]),some (.zone n)])
   (fun _=>True) ?_ ?_
  ·simp[zaa,zac,-Int.natCast_pow]
  intro n hn _
  by_cases hlt:n<2^(mer fv gv).length
  ·simp(disch:=omega)[ltT,-Int.natCast_pow,-Int.natCast_add]
   refine zaF (zmp hG 164 fv gv (mer fv gv) ft gt _ _ _ _ n Rf.2.1 Rg.2.1 hft hgt hfs hgs hnd (by omega) (by omega) _ rfl) (by simp[zac]) ?_
   simp(disch:=omega)[leTn,zag,zac,zaa,hlt,List.range_succ,-Int.natCast_pow,-Int.natCast_add]
  ·have hne:n=2^(mer fv gv).length:=by omega
   subst hne
   simp(disch:=omega)[ltF,-Int.natCast_pow]
   refine zab hp ?_
   simp[FV]
   exact⟨fin.1,vs',tab',⟨rfl,rfl⟩,hR,hw,hval⟩
def asg(r:List Nat):Int→Nat:=fun v=>r.getD v.toNat 0
theorem zvD(w i:Nat):w &&& 2^i=2^i*(w.testBit i).toNat:=by
 refine Nat.eq_of_testBit_eq fun j=>?_
 rw[Nat.testBit_and,Nat.testBit_two_pow,Nat.testBit_two_pow_mul]
 by_cases h:i=j
 ·subst h; cases w.testBit i<;>simp
 ·by_cases h2:i≤j
  ·have:(w.testBit i).toNat<2^(j-i):=Nat.lt_of_lt_of_le (by cases w.testBit i<;>simp:(w.testBit i).toNat<2^1) (Nat.pow_le_pow_right (by decide) (by omega))
   rw[Nat.testBit_lt_two_pow this]; simp[h]
  ·simp[h,h2]
theorem zva{b:Nat}(hb:b<4294967296):andI .u32 (b:Int) 1=((b%2:Nat):Int):=by
 have:=zn7 (a:=b) (b:=1) hb (by decide)
 rw[show((1:Nat):Int)=1 from rfl] at this
 rw[this,show(1:Nat)=2^1-1 from rfl,Nat.and_two_pow_sub_one_eq_mod]
theorem zwU{b:Nat}(hb:b<9223372036854775808):zaP .i64 (b:Int)=(b:Int):=zcY hb
theorem zxZ{i:Nat}(hi:i<32):shlI .u32 1 (i:Int)=((2^i:Nat):Int):=by
 have:=zn9 (a:=1) (j:=i) (by omega)
 rw[Nat.one_mul,Nat.mod_eq_of_lt (show 2^i<4294967296 from Nat.pow_lt_pow_right (a:=2) (n:=32) (by decide) hi)] at this
 exact this
theorem zpG{f:Nat→Bool}{i:Nat}(w:Nat)(h:f i=w.testBit i):zat f i ||| (w &&& 2^i)=zat f (i+1):=by
 rw[zvD,zat,h,Nat.or_comm,←Nat.two_pow_add_eq_or_of_lt (zbi f i)]; omega
theorem zvE(hE:HasBitsE G)(vs:List Int)(tab:List Nat)(r:List Nat)(hl:vs.length≤9223372036854775807)(hl':tab.length≤9223372036854775807)
  (ht:∀ w∈tab,w<4294967296) (hr:r.length=34) (hrw:∀ w∈r,w<4294967296) :
  FP G 110 [FV vs tab,.agg (zad .u32 r)] (.tup [.int .u32 (if zbJ vs tab then(val vs tab (asg r):Nat) else(0:Nat)),.bool (zbJ vs tab)]):=by
 have hG:HasBits G:=hE.toHasBits
 refine zak hE.h_bits_Eval (Nat.le_of_ble_eq_true rfl) ?_
 simp[FV]
 refine zab (zbK hG vs tab hl hl') ?_
 cases hR:zbJ vs tab
 ·simp
 have R:=zcv.1 hR
 have h4:=R.1
 simp
 refine W_up 32 (fun i=>[(2,.ptr 0 0),(3,.ptr 1 0),(6,.int .u32 (zat (fun i=>(sem vs tab fun v=>(asg r v).testBit i).testBit i) i:Nat)),(14,.int .i64 i)])
  (fun _=>[some (.cells [.vs (ints .i64 vs) .no,.vs (nats .u32 tab) .no]),some (.cells (zad .u32 r))]) (fun _=>True) ?_ ?_
 ·simp[zaa,zac,zat]
 intro i hi _
 by_cases hlt:i<32
 ·simp(disch:=omega)[ltT,-Int.natCast_add]
  refine W_up vs.length (fun j=>[(2,.ptr 0 0),(3,.ptr 1 0),(6,.int .u32 (zat (fun i=>(sem vs tab fun v=>(asg r v).testBit i).testBit i) i:Nat)),(7,.int .i64 i),(8,.int .i64 (idx (vs.take j) (fun v=>(asg r v).testBit i):Nat)),(14,.int .i64 i),(18,.vs (ints .i64 vs) .no),(19,.int .i64 vs.length),(20,.int .i64 j)])
   (fun _=>[some (.cells [.vs (ints .i64 vs) .no,.vs (nats .u32 tab) .no]),some (.cells (zad .u32 r))]) (fun _=>True) ?_ ?_
  ·simp[zaa,zac,idx]
  intro j hj _
  by_cases hjl:j<vs.length
  ·have hm:=R.mem (List.getElem_mem hjl)
   have hx:vs[j].toNat<r.length:=by omega
   have hcell:=zaU .u32 r vs[j].toNat hx
   have hrx:=hrw _ (List.getElem_mem hx)
   have hd:r[vs[j].toNat]/2^i<4294967296:=Nat.lt_of_le_of_lt (Nat.div_le_self _ _) hrx
   have hk:idx (vs.take j) (fun v=>(asg r v).testBit i)<2^j:=by have:=zgm (vs.take j) (fun v=>(asg r v).testBit i); rwa[List.length_take,Nat.min_eq_left (by omega)] at this
   have h30:2^j≤2^30:=Nat.pow_le_pow_right (by decide) (by omega)
   have h2:r[vs[j].toNat]/2^i%2≤1:=by omega
   have h3:r[vs[j].toNat]/2^i%2*2^j≤1*2^j:=Nat.mul_le_mul_right _ h2
   have h5:idx (vs.take (j+1)) (fun v=>(asg r v).testBit i)=idx (vs.take j) (fun v=>(asg r v).testBit i) ||| r[vs[j].toNat]/2^i%2*2^j:=by
    rw[zsP hk h2,List.take_add_one,zi9,List.getElem?_eq_getElem hjl,List.length_take,Nat.min_eq_left (by omega),zb3]
    have:asg r vs[j]=r[vs[j].toNat]:=by simp[asg,List.getD_eq_getElem?_getD,hx]
    simp only[Option.toList_some,idx,this,Nat.mul_zero,Nat.add_zero]
   simp(disch:=omega)[ltT,ltF,leT,zal,leTn,hcell,zi5,zva hd,zwU,zrp,or64,zag,zaa,zac,hjl,h5,-Int.natCast_add,-Int.natCast_mul,-Int.natCast_pow,-Int.natCast_emod,-Int.natCast_ediv,-List.getElem?_drop]
  ·have hne:j=vs.length:=by omega
   subst hne
   have hk:=zgm vs (fun v=>(asg r v).testBit i)
   rw[←R.2.1] at hk
   have hw:=ht _ (List.getElem_mem hk)
   have hp:2^i<4294967296:=Nat.pow_lt_pow_right (a:=2) (n:=32) (by decide) hlt
   have hu:zat (fun i=>(sem vs tab fun v=>(asg r v).testBit i).testBit i) i<4294967296:=Nat.lt_trans (zbi _ i) hp
   have ha:tab[idx vs (fun v=>(asg r v).testBit i)] &&& 2^i<4294967296:=Nat.lt_of_le_of_lt Nat.and_le_left hw
   have hs:sem vs tab (fun v=>(asg r v).testBit i)=tab[idx vs (fun v=>(asg r v).testBit i)]:=by simp[sem,List.getD_eq_getElem?_getD,hk]
   have hstep:=zpG (f:=fun i=>(sem vs tab fun v=>(asg r v).testBit i).testBit i) (i:=i) (tab[idx vs (fun v=>(asg r v).testBit i)]) (by simp only[hs])
   simp(disch:=omega)[ltF,leT,zal,zxZ hlt,zn7,or32,hstep,zag,zaa,zac,hlt,-Int.natCast_add,-Int.natCast_pow]
 ·have hne:i=32:=by omega
  subst hne
  simp[val]
def asgn(vs:List Int)(p:Int→Bool):List Nat:=(List.range 34).map fun(i:Nat)=>if(i:Int)∈vs∧p (i:Int)=true then 4294967295 else 0
theorem ztA(p:Int→Bool):asgn [] p=zae 34:=by simp[asgn,zae]; rfl
theorem zrQ{vs:List Int}(hn:vs.Nodup)(p:Int→Bool){j:Nat}(hj:j<vs.length)(h0:0≤vs[j]) :
  asgn (vs.take (j+1)) p=(asgn (vs.take j) p).set vs[j].toNat (if p vs[j] then 4294967295 else 0):=by
 refine List.ext_getElem (by simp[asgn]) fun i h1 h2=>?_
 simp only[asgn,List.getElem_map,List.getElem_range,List.getElem_set]
 have hmem:vs.take (j+1)=vs.take j++[vs[j]]:=by rw[List.take_add_one,List.getElem?_eq_getElem hj]; rfl
 have e1:((i:Int)∈vs.take (j+1))↔((i:Int)∈vs.take j∨(i:Int)=vs[j]):=by rw[hmem]; simp only[List.mem_append,List.mem_singleton]
 by_cases e:vs[j].toNat=i
 ·rw[if_pos e]
  have:(i:Int)=vs[j]:=by omega
  have hin:=e1.2 (.inr this)
  rw[this] at hin
  simp only[this,hin,true_and]
 ·rw[if_neg e]
  have:¬(i:Int)=vs[j]:=by omega
  simp only[e1,this,or_false]
def zjt(fv gv:List Int)(ft gt:List Nat):Option Nat:=(List.range (2^(mer fv gv).length)).find? fun n=>sem fv ft (say (mer fv gv) n) !=sem gv gt (say (mer fv gv) n)
noncomputable def zcq(fv gv:List Int)(ft gt:List Nat):List Nat×Bool :=
 if zbJ fv ft=true∧zbJ gv gt=true then(match zjt fv gv ft gt with
  | some n=>(asgn (mer fv gv) (say (mer fv gv) n),true)
  | none=>(zae 34,false)) else(zae 34,false)
theorem zog(hA:HasBitsA G)(fv gv:List Int)(ft gt:List Nat)(hfl:fv.length≤9223372036854775807)(hgl:gv.length≤9223372036854775807)(hfl':ft.length≤9223372036854775807)(hgl':gt.length≤9223372036854775807)
  (hft:∀ w∈ft,w<4294967296) (hgt:∀ w∈gt,w<4294967296) :
  FP G 112 [FV fv ft,FV gv gt] (.tup [.agg (zad .u32 (zcq fv gv ft gt).1),.bool (zcq fv gv ft gt).2]):=by
 have hG:HasBits G:=hA.toHasBits
 refine zak hA.h_bits_Apart (Nat.le_of_ble_eq_true rfl) ?_
 simp[FV]
 refine zab (zbK hG fv ft hfl hfl') ?_
 cases hrf:zbJ fv ft
 ·simp[zcq,hrf]
 simp[-List.reduceReplicate]
 refine zab (zbK hG gv gt hgl hgl') ?_
 cases hrg:zbJ gv gt
 ·simp[zcq,hrf,hrg]
 have Rf:=zcv.1 hrf
 have Rg:=zcv.1 hrg
 have hml:=zqt fv gv
 have h4f:=Rf.1
 have h4g:=Rg.1
 simp[-List.reduceReplicate]
 refine zab (zhw hG fv gv (by omega)) ?_
 have hup:=zsM fv gv Rf.up Rg.up
 have hnd:=hup.nodup
 have hfs:fv.Sublist (mer fv gv):=ziv Rf.up hup fun v hv=>(zcO _ _).2 (.inl hv)
 have hgs:gv.Sublist (mer fv gv):=ziv Rg.up hup fun v hv=>(zcO _ _).2 (.inr hv)
 have h256:2^(mer fv gv).length≤256:=by rw[show 256=2^8 from rfl]; exact Nat.pow_le_pow_right (by decide) (by omega)
 have hm34:∀ v∈mer fv gv,0≤v∧v<34:=fun v hv=>by
  rcases(zcO _ _).1 hv with h|h
  ·exact Rf.mem h
  ·exact Rg.mem h
 generalize hM:mer fv gv=M at *
 simp(disch:=omega)[ltT,ltF,shl1,-Int.natCast_pow]
 refine W_up (2^M.length) (fun n=>[(2,.ptr 0 0),(3,.ptr 1 0),(4,.ptr 2 0),(6,.ptr 3 0),(7,.vs (ints .i64 M) .no),(27,.int .i64 (2^M.length:Nat)),(28,.int .i64 n)])
  (fun n=>[some (.cells [.vs (ints .i64 fv) .no,.vs (nats .u32 ft) .no]),some (.cells [.vs (ints .i64 gv) .no,.vs (nats .u32 gt) .no]),some (.cells (zad .u32 (zae 34))),some (.cells (zad .u32 (zae 34)))])
  (fun n=>∀ m,m<n→sem fv ft (say M m)=sem gv gt (say M m)) ?_ ?_
 ·simp[zaa,zac,-Int.natCast_pow]
 intro n hn hall
 by_cases hlt:n<2^M.length
 ·simp(disch:=omega)[ltT,-Int.natCast_pow,-Int.natCast_add]
  refine zab (zoa hG fv ft M n Rf.2.1 hfs hnd (by omega) (by omega)) ?_
  simp[-Int.natCast_pow,-Int.natCast_add]
  refine zab (zoa hG gv gt M n Rg.2.1 hgs hnd (by omega) (by omega)) ?_
  by_cases he:sem fv ft (say M n)=sem gv gt (say M n)
  ·simp(disch:=omega)[he,zag,zaa,zac,hlt,-Int.natCast_pow,-Int.natCast_add]
   intro m hm
   by_cases hmn:m=n
   ·subst hmn; exact he
   ·exact hall m (by omega)
  ·have hfirst:zjt fv gv ft gt=some n:=by
    rw[zjt,hM,List.find?_range_eq_some]
    exact⟨by simpa using he,by simpa using hlt,fun m hm=>by simpa using hall m hm⟩
   have hap:zcq fv gv ft gt=(asgn M (say M n),true):=by simp[zcq,hrf,hrg,hfirst,hM]
   simp(disch:=omega)[he,beqF,zaa,zac,-Int.natCast_pow,-Int.natCast_add]
   refine W_up M.length (fun j=>[(4,.ptr 2 0),(6,.ptr 3 0),(8,.int .i64 n),(40,.vs (ints .i64 M) .no),(41,.int .i64 M.length),(42,.int .i64 j)])
    (fun j=>[some (.cells [.vs (ints .i64 fv) .no,.vs (nats .u32 ft) .no]),some (.cells [.vs (ints .i64 gv) .no,.vs (nats .u32 gt) .no]),some (.cells (zad .u32 (zae 34))),some (.cells (zad .u32 (asgn (M.take j) (say M n))))])
    (fun j=>True) ?_ ?_
   ·simp[zaa,zac,ztA]
   intro j hj _
   by_cases hjl:j<M.length
   ·have hm:=hm34 _ (List.getElem_mem hjl)
    have hlen:(asgn (M.take j) (say M n)).length=34:=by simp[asgn]
    have hset:=zbs .u32 (asgn (M.take j) (say M n)) M[j].toNat
    have hb:n/2^j<9223372036854775808:=Nat.lt_of_le_of_lt (Nat.div_le_self _ _) (by omega)
    have hstep:=zrQ hnd (say M n) hjl hm.1
    have hsay:say M n M[j]=n.testBit j:=by simp only[say]; rw[List.Nodup.idxOf_getElem hnd]
    rw[hsay] at hstep
    have hbit:=zb3 n j
    cases hbb:n.testBit j
    ·rw[hbb] at hstep hbit
     have hs0:=hset 0 (by omega)
     have hmc:mulI .u32 4294967295 (zaP .u32 0)=0:=by decide
     simp(disch:=omega)[ltT,ltF,leT,zal,zej,and1 hb,hbit,zag,zaa,zac,hjl,hstep,leTn,hlen,hmc,hs0,-Int.natCast_pow,-Int.natCast_add,-Int.natCast_ediv,-Int.natCast_emod]
     have h3:clL 4 ((zad .u32 (asgn (M.take j) (say M n))).take M[j].toNat++V.int .u32 0::(zad .u32 (asgn (M.take j) (say M n))).drop (M[j].toNat+1))=zad .u32 ((asgn (M.take j) (say M n)).set M[j].toNat 0):=(congrArg (clL 4) hs0).trans (zoW 4 _ _)
     exact h3
    ·rw[hbb] at hstep hbit
     have hs0:=hset 4294967295 (by omega)
     have hmc:mulI .u32 4294967295 (zaP .u32 1)=4294967295:=by decide
     simp(disch:=omega)[ltT,ltF,leT,zal,zej,and1 hb,hbit,zag,zaa,zac,hjl,hstep,leTn,hlen,hmc,hs0,-Int.natCast_pow,-Int.natCast_add,-Int.natCast_ediv,-Int.natCast_emod]
     have h3:clL 4 ((zad .u32 (asgn (M.take j) (say M n))).take M[j].toNat++V.int .u32 4294967295::(zad .u32 (asgn (M.take j) (say M n))).drop (M[j].toNat+1))=zad .u32 ((asgn (M.take j) (say M n)).set M[j].toNat 4294967295):=(congrArg (clL 4) hs0).trans (zoW 4 _ _)
     exact h3
   ·have hne:j=M.length:=by omega
    subst hne
    have hl34:(asgn M (say M n)).length=34:=by simp[asgn]
    simp(disch:=omega)[ltF,hap,hl34,zaj hl34,zhN hl34]
 ·have hne:n=2^M.length:=by omega
  subst hne
  have hfirst:zjt fv gv ft gt=none:=by
   rw[zjt,hM,List.find?_range_eq_none]
   exact fun m hm=>by simpa using hall m hm
  have hap:zcq fv gv ft gt=(zae 34,false):=by simp[zcq,hrf,hrg,hfirst]
  simp(disch:=omega)[ltF,hap,-Int.natCast_pow]
end Go.Ev
/- More of what is done with bits. -/
namespace Go.Ev
open Go Go.RowKit
variable {G:Tbl}
theorem zx0(hG:HasBits G){kind:Int}{fv gv vs:List Int}{ft gt tab:List Nat}(hok:DoOk kind fv gv ft gt)(hft:∀ w∈ft,w<4294967296)(hgt:∀ w∈gt,w<4294967296)(hR:Right vs tab)
  (hs:∀ p,sem vs tab p=(doW kind (sem fv ft p) (sem gv gt p)).1):FP G 109 [.int .i64 kind,FV fv ft,FV gv gt] (.tup [FV vs tab,.bool true]):=by
 have h1:=hok.2.1.1
 have h2:=hok.2.2.1.1
 have h3:=zcd h1 hok.2.1.2.1
 have h4:=zcd h2 hok.2.2.1.2.1
 obtain⟨r,hr,h|⟨_,vs',tab',rfl,hR',_,hs'⟩⟩:=zu9 hG kind fv gv ft gt (by omega) (by omega) (by omega) (by omega) hft hgt
 ·exact absurd hok h.1
 ·obtain⟨rfl,rfl⟩:=zvm hR' hR fun p=>by rw[hs,hs']
  exact hr
theorem zwV(vs:List Int)(tab:List Nat)(r:Int→Nat):val vs tab r<4294967296:=zbi _ 32
theorem zrR{kind:Int}{fv gv vs:List Int}{ft gt tab:List Nat}(h:kind=68∨kind=84∨kind=164)(hs:∀ p,sem vs tab p=(doW kind (sem fv ft p) (sem gv gt p)).1)(r:Int→Nat) :
  val vs tab r=(doW kind (val fv ft r) (val gv gt r)).1:=by
 refine Nat.eq_of_testBit_eq fun i=>?_
 have hv:∀(v:List Int) (t:List Nat),(val v t r).testBit i=(decide (i<32)&&(sem v t fun u=>(r u).testBit i).testBit i):=fun v t=>by rw[val,zb0]
 rcases h with rfl|rfl|rfl<;>simp only[doW] at hs ⊢<;>simp at hs ⊢<;>(rw[hv,hs]; simp[hv]; try (cases decide (i<32)<;>simp))
end Go.Ev
/- Sums, constants, variables and bits of a book. -/
namespace Go.Ev
open Go Go.RowKit
variable {G:Tbl}
variable {H:Heap} {b z m:Nat} {L:List Nd}
theorem ztB{f:List Nat}(hf:f.length=35):(zas f).ok:=⟨hf,rfl,rfl⟩
def putN(L:List Nd)(a:Nd):Int×List Nd:=((L.idxOf a:Nat),insN L a)
def BF(G:Tbl)(f:Nat)(args:List V)(H:Heap)(b z m:Nat)(p:Int×List Nd):Prop:=SF G f (.ptr b 0::args) H (.int .i64 p.1) (upd H b z m p.2)
theorem zee[HasSym G](f:List Nat)(hf:f.length=35)(h:Bk H b z m L)(hs:L.length<1000000):BF G 260 [.agg (zad .u32 f)] H b z m (putN L (zas f)):=by
 have ht:=zaj (k:=.u32) hf
 have h1:Bk (H++[some (.cells (zad .u32 f))]) b z m L:=h.app fun n=>by simp[Blk.cl]
 have hu:=h.upd_app [some (.cells (zad .u32 f))] (insN L (zas f))
 have hbk:=h.back (insN L (zas f)) [some (.cells (zad .u32 f))]
 refine zbz HasSym.h_sym_Book_sum (Nat.le_of_ble_eq_true rfl) ?_
 simp[-List.reduceReplicate,hf,ht,-za6,nz,zur f hf,ap0,apk,leTn,leFn]
 refine zai (zkF (zas f) (ztB hf) h1 hs) ?_
 simp[putN,hu,hbk]
theorem zeI[HasAffine G][HasSym G](c:Nat)(h:Bk H b z m L)(hs:L.length<1000000):BF G 262 [.int .u32 c] H b z m (putN L (zas (c::zae 34))):=by
 have hbk:=h.back (insN L (zas (c::zae 34))) []
 refine zbz HasSym.h_sym_Book_Const (Nat.le_of_ble_eq_true rfl) ?_
 simp at hbk
 simp
 refine zab (zik c) ?_
 simp
 refine zai (zee (c::zae 34) (by simp) h hs) ?_
 simp[putN,hbk]
def varN(L:List Nd)(i:Int):Int×List Nd:=if 0≤i∧i<34 then putN L (zas (varL i.toNat)) else(-1,L)
theorem zp5[HasAffine G][HasSym G](i:Int)(h:Bk H b z m L)(hs:L.length<1000000):BF G 263 [.int .i64 i] H b z m (varN L i):=by
 refine zbz HasSym.h_sym_Book_Var (Nat.le_of_ble_eq_true rfl) ?_
 have hd:(zad .u32 (zae 35)).drop 35=[]:=rfl
 by_cases hi:i<0∨34≤i
 ·have hv:varN L i=(-1,L):=by rw[varN,if_neg (by omega)]
  have hbk:=h.shut.back
  simp[hv,h.upd_self]
  refine zab (zsQ i hi) ?_
  simp[hd,hbk]
 ·obtain⟨n,rfl⟩:=Int.eq_ofNat_of_zero_le (show 0≤i by omega)
  have hv:varN L n=putN L (zas (varL n)):=by rw[varN,if_pos (by omega)]; rfl
  have hl:(varL n).length=35:=by simp[varL]
  have ht:=zaj (k:=.u32) hl
  have h1:Bk (H++[some (.cells (zad .u32 (varL n)))]) b z m L:=h.app fun n=>by simp[Blk.cl]
  have hu:=h.upd_app [some (.cells (zad .u32 (varL n)))] (insN L (zas (varL n)))
  have hbk:=h.back (insN L (zas (varL n))) [some (.cells (zad .u32 (varL n)))]
  have hsh:=h1.shut.self
  simp at hsh
  simp[hv]
  refine zab (zj4 n (by omega)) ?_
  simp[hd,hl,ht,hsh]
  refine zai (zee (varL n) hl h1 hs) ?_
  simp[putN,hu,hbk]
def zcr(fv:List Int)(ft:List Nat):Nd:={ Nd0 with kind:=1,n:=fv.length,vars:=fv.map Int.toNat++zae (4-fv.length),tab:=ft++zae (16-ft.length) }
def ones:Nat:=4294967295
def zb4(L:List Nd)(fv:List Int)(ft:List Nat):Int×List Nd :=
 match fv with
 | []=>putN L (zas (ft.headD 0::zae 34))
 | [i]=>if ft=[0,ones] then putN L (zas (varL i.toNat)) else if ft=[ones,0] then putN L (zas (fSub (ones::zae 34) (varL i.toNat))) else putN L (zcr [i] ft)
 | fv=>putN L (zcr fv ft)
theorem ztC[HasAffine G][HasSym G](fv:List Int)(ft:List Nat)(hR:Right fv ft)(h:Bk H b z m L)(hs:L.length<1000000):BF G 261 [FV fv ft] H b z m (zb4 L fv ft):=by
 refine zbz HasSym.h_sym_Book_bits (Nat.le_of_ble_eq_true rfl) ?_
 have h1:Bk (H++[some (.cells [.vs (ints .i64 fv) .no,.vs (nats .u32 ft) .no])]) b z m L:=h.app fun n=>by simp[Blk.cl,clL,V.cl]
 obtain⟨h4,hl,hm⟩:=hR
 match fv,h4,hl,hm,h1 with
 | [],_,hl,_,h1 => 
  obtain⟨c,rfl⟩:∃ c,ft=[c]:=by match ft,hl with|[c],_=>exact⟨c,rfl⟩
  have hu:=h.upd_app [some (.cells [.vs (ints .i64 []) .no,.vs (nats .u32 [c]) .no])] (insN L (zas (c::zae 34)))
  have hbk:=h.back (insN L (zas (c::zae 34))) [some (.cells [.vs (ints .i64 []) .no,.vs (nats .u32 [c]) .no])]
  have hn:∀ x:Nat,nats .u32 [x]=[[.int .u32 (x:Int)]]:=fun _=>rfl
  simp only[hn,zui] at h1 hu hbk
  have hsh:=h1.shut.self
  simp at hsh
  simp[FV,zb4,ap0,apk,leTn,leFn,hn,hsh]
  refine zai (zeI c h1 hs) ?_
  simp[putN,hu,hbk]
 | i::t,h4,hl,hm,h1 => 
  have hlt:t.length+1≤4:=by simpa using h4
  have hmt:∀ v∈t,0≤v:=fun v hv=>by
   obtain⟨j,hj,rfl⟩:=List.getElem_of_mem hv
   obtain⟨w,hw,hw0,_⟩:=hm (j+1) (by simp; omega)
   rw[List.getElem?_cons_succ,List.getElem?_eq_getElem hj] at hw
   cases hw; exact hw0
  obtain⟨v,hv,hv0,hv34,_⟩:=hm 0 (by simp)
  obtain rfl:i=v:=by simpa using hv
  obtain⟨n,rfl⟩:=Int.eq_ofNat_of_zero_le hv0
  have hd:(zad .u32 (zae 35)).drop 35=[]:=rfl
  have hl2:(varL n).length=35:=by simp[varL]
  have ht:=zaj (k:=.u32) hl2
  obtain⟨p,q,r,rfl⟩:∃ p q r,ft=p::q::r:=by
   match ft,hl with
   | p::q::r,_=>exact⟨p,q,r,rfl⟩
   | [p],hl=>exfalso; have:=Nat.one_le_two_pow (n:=t.length); simp[Nat.pow_succ] at hl; omega
   | [],hl=>exfalso; have:=Nat.one_le_two_pow (n:=t.length); simp[Nat.pow_succ] at hl; omega
  have h2:Bk (H++[some (.cells [.vs (ints .i64 ((n:Int)::t)) .no,.vs (nats .u32 (p::q::r)) .no]),some (.cells (zad .u32 (varL n)))]) b z m L:=h.app fun n=>by simp[Blk.cl,clL,V.cl]
  have hsh1:=h1.shut.self
  have hsh2:=h2.shut.self
  simp at hsh1 hsh2
  simp(disch:=omega)[FV,beqF,ap0,apk,leTn,leFn]
  refine zab (zj4 n (by omega)) ?_
  have cs:(t=[]∧p=0∧q=ones)∨(t=[]∧p=ones∧q=0)∨(t≠[]∨t=[]∧p≠0∧p≠ones∨t=[]∧p=0∧q≠ones∨t=[]∧p=ones∧q≠0):=by
   by_cases e1:t=[]
   ·simp only[e1,true_and,ne_eq,not_true,false_or,ones]; omega
   ·exact .inr (.inr (.inl e1))
  rcases cs with⟨rfl,rfl,rfl⟩|⟨rfl,rfl,rfl⟩|cs
  ·obtain rfl:r=[]:=by simpa using hl
   have hu:=h.upd_app [some (.cells [.vs (ints .i64 [(n:Int)]) .no,.vs (nats .u32 [0,ones]) .no]),some (.cells (zad .u32 (varL n)))] (insN L (zas (varL n)))
   have hbk:=h.back (insN L (zas (varL n))) [some (.cells [.vs (ints .i64 [(n:Int)]) .no,.vs (nats .u32 [0,ones]) .no]),some (.cells (zad .u32 (varL n)))]
   have h2':=h2
   simp[ones,nats] at hu hbk h2'
   simp(disch:=omega)[ones,nats,FV,beqF,ap0,apk,leTn,leFn,hd,ht,hl2,hsh1,hsh2]
   refine zai (zee (varL n) hl2 h2' hs) ?_
   simp[putN,hu,hbk,zb4,ones]
  ·obtain rfl:r=[]:=by simpa using hl
   have hl3:(fSub (ones::zae 34) (varL n)).length=35:=by simp[fSub,hl2]
   have hu:=h.upd_app [some (.cells [.vs (ints .i64 [(n:Int)]) .no,.vs (nats .u32 [ones,0]) .no]),some (.cells (zad .u32 (varL n)))] (insN L (zas (fSub (ones::zae 34) (varL n))))
   have hbk:=h.back (insN L (zas (fSub (ones::zae 34) (varL n)))) [some (.cells [.vs (ints .i64 [(n:Int)]) .no,.vs (nats .u32 [ones,0]) .no]),some (.cells (zad .u32 (varL n)))]
   have h2':=h2
   have hvw:∀ x∈varL n,x<4294967296:=fun x hx=>by
    rw[varL] at hx
    rcases List.mem_or_eq_of_mem_set hx with hx|rfl
    ·rw[zae,List.mem_replicate] at hx; omega
    ·omega
   simp[ones,nats] at hu hbk h2' hl3
   simp(disch:=omega)[ones,nats,FV,beqF,ap0,apk,leTn,leFn,hd,ht,hl2,hsh1,hsh2]
   refine zab (zik 4294967295) ?_
   simp(disch:=omega)[ones,nats,FV,beqF,ap0,apk,leTn,leFn,hd,ht,hl2,hsh1,hsh2]
   refine zab (zmK (4294967295::zae 34) (varL n) (by simp) hl2 hvw) ?_
   simp
   refine zai (zee _ hl3 h2' hs) ?_
   simp[putN,hu,hbk,zb4,ones]
  ·have hbn:zb4 L ((n:Int)::t) (p::q::r)=putN L (zcr ((n:Int)::t) (p::q::r)):=by
    cases t with
    | cons _ _=>rfl
    | nil =>
     obtain rfl:r=[]:=by simpa using hl
     simp only[zb4]
     rw[if_neg,if_neg]
     ·intro e; simp at e; simp at cs; omega
     ·intro e; simp at e; simp at cs; omega
   obtain⟨a,ha⟩:∃ a,a=zcr ((n:Int)::t) (p::q::r):=⟨_,rfl⟩
   have hlen:(p::q::r).length≤16:=by rw[hl]; exact Nat.pow_le_pow_right (n:=2) (by decide) h4
   have hao:a.ok:=by
    rw[ha]
    refine⟨rfl,?_,?_⟩
    ·simp[zcr]; omega
    ·simp[zcr] at hlen ⊢; omega
   have hll:(zad .u32 (zae 35)).length=35:=by simp
   obtain⟨a1,ha1⟩:∃ a1:Nd,a1={ Nd0 with kind:=1,n:=t.length+1 }:=⟨_,rfl⟩
   obtain⟨a2,ha2⟩:∃ a2:Nd,a2={ a1 with vars:=((n:Int)::t).map Int.toNat++zae (4-(t.length+1)) }:=⟨_,rfl⟩
   have haa:a={ a2 with tab:=p::q::r++zae (16-(r.length+2)) }:=by rw[ha,ha2,ha1]; rfl
   have hfill:∀ r:List (Nat×V),za6 (mkE ((66,.int .i64 ((t.length:Int)+1))::r)) Nd0.cs [(0,1,.c (.int .i64 1)),(36,1,.t 66)]=some a1.cs:=fun r=>by
    have he:(mkE ((66,.int .i64 ((t.length:Int)+1))::r)) 66=.int .i64 ((t.length:Int)+1):=by simp
    have hd:∀ r:List V,(zad .u32 (zae 35)++r).drop 36=r.drop 1:=fun r=>by rw[show 36=(zad .u32 (zae 35)).length+1 by simp,List.drop_append]; simp
    simp[za6,Nd0,Nd.cs,ha1,hd]
   have hl1:a1.cs.length=60:=Nd.len (by rw[ha1]; exact⟨rfl,rfl,rfl⟩)
   have htk1:a1.cs.take 60=a1.cs:=List.take_of_length_le (by omega)
   have hz60:Nd0.cs.length=60:=rfl
   have hd0:Nd0.cs.drop 60=[]:=rfl
   obtain⟨k4,hk4⟩:∃ k4,k4=t.length+1:=⟨_,rfl⟩
   obtain⟨k16,hk16⟩:∃ k16,k16=r.length+2:=⟨_,rfl⟩
   have hsI:∀ l:List Int,((ints .i64 l).map List.length).sum=l.length:=fun l=>by induction l with
    | nil=>rfl
    | cons x l ih=>simp only[zbP,List.map_cons,List.sum_cons,ih,List.length_cons,List.length_nil]; omega
   have hsN:∀ l:List Nat,((nats .u32 l).map List.length).sum=l.length:=fun l=>by rw[zjY,ints,List.map_map]; induction l with
    | nil=>rfl
    | cons x l ih=>simp only[List.map_cons,List.sum_cons,List.map_map] at ih ⊢; rw[ih]; simp; omega
   have hm4:min ((ints .i64 ((n:Int)::t)).map List.length).sum 4=k4:=by rw[hsI]; simp; omega
   have hm16:min ((nats .u32 (p::q::r)).map List.length).sum 16=k16:=by rw[hsN]; simp at hlen ⊢; omega
   have hi4:(ints .i64 ((n:Int)::t)).flatten=zad .i64 (((n:Int)::t).map Int.toNat):=by
    have:∀ l:List Int,(∀ v∈l,0≤v)→(ints .i64 l).flatten=zad .i64 (l.map Int.toNat):=fun l=>by
     induction l with
     | nil=>intro _; rfl
     | cons x l ih =>
      intro hx
      rw[zbP,List.flatten_cons,ih (fun v hv=>hx v (by simp[hv]))]
      have:=hx x (by simp)
      simp[zad]; omega
    exact this _ fun v hv=>by rcases List.mem_cons.1 hv with rfl|hv; omega; exact hmt v hv
   have hi16:(nats .u32 (p::q::r)).flatten=zad .u32 (p::q::r):=by
    have:∀ l:List Nat,(nats .u32 l).flatten=zad .u32 l:=fun l=>by
     induction l with
     | nil=>rfl
     | cons x l ih=>rw[zns,List.flatten_cons,ih]; rfl
    exact this _
   have ht4:(zad .i64 (((n:Int)::t).map Int.toNat)).take k4=zad .i64 (((n:Int)::t).map Int.toNat):=List.take_of_length_le (by simp; omega)
   have ht16:(zad .u32 (p::q::r)).take k16=zad .u32 (p::q::r):=List.take_of_length_le (by simp; omega)
   have c37:∀ c:Nd,c.ok→c.cs.take 37=.int .i64 (c.kind:Int)::(zad .u32 c.f++[.int .i64 (c.n:Int)])∧c.cs.drop 37=zad .i64 c.vars++(zad .u32 c.tab++[.int .i64 c.op,.int .i64 (c.x:Int),.int .i64 (c.y:Int)]):=fun c hc=>by
    have e:c.cs=(.int .i64 (c.kind:Int)::(zad .u32 c.f++[.int .i64 (c.n:Int)]))++(zad .i64 c.vars++(zad .u32 c.tab++[.int .i64 c.op,.int .i64 (c.x:Int),.int .i64 (c.y:Int)])):=by simp[Nd.cs]
    have hl:(V.int .i64 (c.kind:Int)::(zad .u32 c.f++[.int .i64 (c.n:Int)])).length=37:=by simp[hc.1]
    rw[e]
    exact⟨List.take_left' hl,List.drop_left' hl⟩
   have c41:∀ c:Nd,c.ok→c.cs.take 41=.int .i64 (c.kind:Int)::(zad .u32 c.f++.int .i64 (c.n:Int)::zad .i64 c.vars)∧c.cs.drop 41=zad .u32 c.tab++[.int .i64 c.op,.int .i64 (c.x:Int),.int .i64 (c.y:Int)]:=fun c hc=>by
    have e:c.cs=(.int .i64 (c.kind:Int)::(zad .u32 c.f++.int .i64 (c.n:Int)::zad .i64 c.vars))++(zad .u32 c.tab++[.int .i64 c.op,.int .i64 (c.x:Int),.int .i64 (c.y:Int)]):=by simp[Nd.cs]
    have hl:(V.int .i64 (c.kind:Int)::(zad .u32 c.f++.int .i64 (c.n:Int)::zad .i64 c.vars)).length=41:=by simp[hc.1,hc.2.1]
    rw[e]
    exact⟨List.take_left' hl,List.drop_left' hl⟩
   have hao1:a1.ok:=by rw[ha1]; exact⟨rfl,rfl,rfl⟩
   have hao2:a2.ok:=by rw[ha2,ha1]; refine⟨rfl,?_,rfl⟩; simp; omega
   have dz:∀(k:IntKind) (n j:Nat) (r:List V),j≤n→(zad k (zae n)++r).drop j=zad k (zae (n-j))++r:=fun k n j r h=>by
    rw[List.drop_append_of_le_length (by simp; exact h),zad,←List.map_drop,zae,List.drop_replicate]; rfl
   have m1:a1.cs.take 37++(zad .i64 (((n:Int)::t).map Int.toNat)++a1.cs.drop (37+k4))=a2.cs:=by
    rw[←List.drop_drop,(c37 a1 hao1).1,(c37 a1 hao1).2,show a1.vars=zae 4 by rw[ha1]; rfl,dz .i64 4 k4 _ (by omega),ha2,hk4]
    simp[Nd.cs,ha1,zad]
   have m2:a2.cs.take 41++(zad .u32 (p::q::r)++a2.cs.drop (41+k16))=a.cs:=by
    rw[←List.drop_drop,(c41 a2 hao2).1,(c41 a2 hao2).2,show a2.tab=zae 16 by rw[ha2,ha1]; rfl,dz .u32 16 k16 _ (by simp at hlen; omega),haa,hk16]
    simp[Nd.cs,zad]
   have hla:=Nd.len hao
   have hla2:=Nd.len hao2
   have hta:a.cs.take 60=a.cs:=List.take_of_length_le (by omega)
   have hcl1:∀(c:Nd) (n:Nat),clL n c.cs=c.cs:=fun c n=>by rw[zan]; simp[Nd.cs,zad,Function.comp_def,V.cl]
   have h3:Bk (H++[some (.cells [.vs (ints .i64 ((n:Int)::t)) .no,.vs (nats .u32 (p::q::r)) .no]),some (.cells (zad .u32 (varL n))),some (.cells a.cs)]) b z m L:=h.app fun n=>by simp[Blk.cl,hcl1,clL,V.cl]
   have hu:=h.upd_app [some (.cells [.vs (ints .i64 ((n:Int)::t)) .no,.vs (nats .u32 (p::q::r)) .no]),some (.cells (zad .u32 (varL n))),some (.cells a.cs)] (insN L a)
   have hbk:=h.back (insN L a) [some (.cells [.vs (ints .i64 ((n:Int)::t)) .no,.vs (nats .u32 (p::q::r)) .no]),some (.cells (zad .u32 (varL n))),some (.cells a.cs)]
   rw[hbn,←ha]
   rw[hk4] at m1 ht4
   rw[hk16] at m2 ht16
   rw[show r.length+2=r.length+1+1 from rfl] at m2 ht16
   simp only[List.map_cons,Int.toNat_natCast] at m1 ht4
   rcases cs with cs|⟨rfl,cs,cs'⟩|⟨rfl,rfl,cs⟩|⟨rfl,rfl,cs⟩
   ·have htl:0<t.length:=List.length_pos_iff.2 cs
    simp(disch:=omega)[-za6,nz,FV,beqF,ap0,apk,leTn,leFn,set0,setk,hd,ht,hl2,hsh1,hsh2,hfill,hl1,htk1,hz60,hd0,hm4,hm16,hi4,hi16,ht4,ht16,m1,m2,hla,hla2,hta]
    refine zai (zkF a hao h3 hs) ?_
    simp[putN,hu,hbk]
   ·have hp0:((p:Int)==0)=false:=beqF (by omega)
    have hp1:((p:Int)==4294967295)=false:=beqF (by rw[ones] at cs'; omega)
    have hfill1:∀ r,za6 (mkE ((66,.int .i64 1)::r)) Nd0.cs [(0,1,.c (.int .i64 1)),(36,1,.t 66)]=some a1.cs:=fun r=>hfill r
    simp[ones] at m1 ht4 m2 ht16 h3 hu hbk
    simp(disch:=omega)[hp0,hp1,hfill1,-za6,nz,FV,beqF,ap0,apk,leTn,leFn,set0,setk,hd,ht,hl2,hsh1,hsh2,hfill,hl1,htk1,hz60,hd0,hm4,hm16,hi4,hi16,ht4,ht16,m1,m2,hla,hla2,hta]
    refine zai (zkF a hao h3 hs) ?_
    simp[putN,hu,hbk]
   ·have hp1:((q:Int)==4294967295)=false:=beqF (by rw[ones] at cs; omega)
    have hfill1:∀ r,za6 (mkE ((66,.int .i64 1)::r)) Nd0.cs [(0,1,.c (.int .i64 1)),(36,1,.t 66)]=some a1.cs:=fun r=>hfill r
    simp[ones] at m1 ht4 m2 ht16 h3 hu hbk
    simp(disch:=omega)[hp1,hfill1,-za6,nz,FV,beqF,ap0,apk,leTn,leFn,set0,setk,hd,ht,hl2,hsh1,hsh2,hfill,hl1,htk1,hz60,hd0,hm4,hm16,hi4,hi16,ht4,ht16,m1,m2,hla,hla2,hta]
    refine zai (zkF a hao h3 hs) ?_
    simp[putN,hu,hbk]
   ·have hp1:((q:Int)==0)=false:=beqF (by omega)
    have hfill1:∀ r,za6 (mkE ((66,.int .i64 1)::r)) Nd0.cs [(0,1,.c (.int .i64 1)),(36,1,.t 66)]=some a1.cs:=fun r=>hfill r
    simp[ones] at m1 ht4 m2 ht16 h3 hu hbk
    simp only[ones] at hm16 hi16
    simp(disch:=omega)[ones,hp1,hfill1,-za6,nz,FV,beqF,ap0,apk,leTn,leFn,set0,setk,hd,ht,hl2,hsh1,hsh2,hfill,hl1,htk1,hz60,hd0,hm4,hm16,hi4,hi16,ht4,ht16,m1,m2,hla,hla2,hta]
    refine zai (zkF a hao h3 hs) ?_
    simp[putN,hu,hbk]
end Go.Ev
/- What a book's values are. -/
namespace Go.Ev
open Go Go.RowKit
variable {G:Tbl}
variable {H:Heap} {b z m:Nat} {L:List Nd}
def asB(a:Nd):Option (List Int×List Nat) :=
 if a.kind=1 then some ((a.vars.take a.n).map fun(x:Nat)=>(x:Int),a.tab.take (2^a.n))
 else if a.kind=0 then(match zaZ a.f with
  | some c=>some ([],[c])
  | none=>match fOne a.f with
   | some i=>some ([(i:Int)],[0,ones])
   | none=>match fOne (fSub (ones::zae 34) a.f) with
    | some i=>some ([(i:Int)],[ones,0])
    | none=>none)
 else none
def asBV(o:Option (List Int×List Nat)):V:=match o with
 | some p=>.tup [FV p.1 p.2,.bool true]
 | none=>.tup [.agg [.vs [] .full,.vs [] .full],.bool false]
theorem zhX(k:IntKind)(r:List V):∀(n:Nat) (l:List Nat),n≤l.length→zbb 1 n (zad k l++r)=nats k (l.take n)
 | 0,_,_=>by simp[zbb]
 | n+1,[],h=>by simp at h
 | n+1,x::l,h=>by
  have ih:=zhX k r n l (by simpa using h)
  simp only[zad,List.map_cons,List.cons_append,zbb,List.take_succ_cons,zns]
  rw[show(V.int k (x:Int)::((l.map fun(x:Nat)=>V.int k (x:Int))++r)).drop 1=zad k l++r from rfl,ih]
  rfl
theorem Nd.cs_cl(n:Nat)(c:Nd):clL n c.cs=c.cs:=by rw[zan]; simp[Nd.cs,zad,Function.comp_def,V.cl]
theorem zju(i:Nat)(hi:i<34):Right [(i:Int)] [0,ones]∧Right [(i:Int)] [ones,0]:=by
 constructor
 all_goals
  refine⟨by simp,by simp,fun j hj=>?_⟩
  obtain rfl:j=0:=by simpa using hj
  exact⟨_,rfl,by omega,by omega,fun u h=>absurd h (by omega),by decide⟩
theorem ztD[HasBits G](i:Nat)(hi:i<34):FP G 109 [.int .i64 164,FV [(i:Int)] [0,ones],FV [] [ones]] (.tup [FV [(i:Int)] [ones,0],.bool true]):=by
 obtain⟨r1,r2⟩:=zju i hi
 have r3:Right [] [ones]:=⟨by simp,by simp,fun j hj=>by simp at hj⟩
 exact zx0 (by infer_instance) ⟨by decide,r1,r3,by simp[mer]⟩ (by simp[ones]) (by simp[ones]) r2 fun p=>by cases h:p (i:Int)<;>simp[sem,idx,h,doW,ones]
theorem zrS[HasAffine G][HasBits G][HasSym G](x:Nat)(a:Nd)(h:Bk H b z m L)(hx:L[x]?=some a)(hn:a.kind=1→a.n≤4)(hw:∀ c∈a.f,c<4294967296):SF G 265 [.ptr b 0,.int .i64 x] H (asBV (asB a)) H:=by
 refine zbz HasSym.h_sym_Book_asBits (Nat.le_of_ble_eq_true rfl) ?_
 have hlt:=h.lb
 have hb:=h.hb'
 have hb2:∀ r:Heap,(H++r)[b]?=some (some (.cells [.vs (nds L) (.own z),.mp m])):=fun r=>by rw[List.getElem?_append_left hlt]; exact hb
 have hg:=zmI hx
 have hao:=h.ok a (List.mem_of_getElem? hx)
 have hl:=Nd.len hao
 have htk:a.cs.take 60=a.cs:=List.take_of_length_le (by omega)
 have hd0:Nd0.cs.drop 60=[]:=rfl
 have hz60:Nd0.cs.length=60:=rfl
 have hbk:=h.shut.back
 have g0:a.cs.head?=some (.int .i64 (a.kind:Int)):=rfl
 have t1:a.cs.take 1=[.int .i64 (a.kind:Int)]:=rfl
 have e36:a.cs=(.int .i64 (a.kind:Int)::zad .u32 a.f)++(.int .i64 (a.n:Int)::(zad .i64 a.vars++(zad .u32 a.tab++[.int .i64 a.op,.int .i64 (a.x:Int),.int .i64 (a.y:Int)]))):=by simp[Nd.cs]
 have l36:(V.int .i64 (a.kind:Int)::zad .u32 a.f).length=36:=by simp[hao.1]
 have d36:a.cs.drop 36=.int .i64 (a.n:Int)::(zad .i64 a.vars++(zad .u32 a.tab++[.int .i64 a.op,.int .i64 (a.x:Int),.int .i64 (a.y:Int)])):=by rw[e36]; exact List.drop_left' l36
 have d37:a.cs.drop 37=zad .i64 a.vars++(zad .u32 a.tab++[.int .i64 a.op,.int .i64 (a.x:Int),.int .i64 (a.y:Int)]):=by rw[show 37=36+1 from rfl,←List.drop_drop,d36]; rfl
 have d41:a.cs.drop 41=zad .u32 a.tab++[.int .i64 a.op,.int .i64 (a.x:Int),.int .i64 (a.y:Int)]:=by rw[show 41=37+4 from rfl,←List.drop_drop,d37]; exact List.drop_left' (by simp[hao.2.1])
 have t36:(a.cs.drop 36).take 1=[.int .i64 (a.n:Int)]:=by rw[d36]; rfl
 have t35:(a.cs.drop 1).take 35=zad .u32 a.f:=by
  show(zad .u32 a.f++_).take 35=_
  rw[List.take_left' (by simp[hao.1])]
 have t35':a.cs.tail.take 35=zad .u32 a.f:=by rw[←List.drop_one]; exact t35
 have hne':(H.length=b)=False:=eq_false (by omega)
 have hnz:(b=H.length)=False:=eq_false (by omega)
 by_cases hk1:a.kind=1
 ·have hk:((a.kind:Int)==1)=true:=beqT (by omega)
  have hn4:=hn hk1
  have hn4':((a.n:Int)≤4)=True:=eq_true (by omega)
  have hp16:2^a.n≤16:=Nat.pow_le_pow_right (n:=2) (by decide) hn4
  obtain⟨w,hw⟩:∃ w,w=2^a.n:=⟨_,rfl⟩
  have hsh:shlI .i64 1 (a.n:Int)=(w:Int):=by rw[hw]; exact shl1 (by omega)
  rw[←hw] at hp16
  have hn0:((a.n:Int)<0)=False:=eq_false (by omega)
  have hpure:a.cs.all V.pure=true:=by simp[Nd.cs,zad,V.pure]
  have hc1:zbb 1 a.n (a.cs.drop 37)=ints .i64 ((a.vars.take a.n).map fun(x:Nat)=>(x:Int)):=by rw[d37,zhX _ _ _ _ (by rw[hao.2.1]; exact hn4),zjY]; rfl
  have hc2:zbb 1 w (a.cs.drop 41)=nats .u32 (a.tab.take w):=by rw[d41,zhX _ _ _ _ (by rw[hao.2.2]; exact hp16)]
  have hasb:asB a=some ((a.vars.take a.n).map fun(x:Nat)=>(x:Int),a.tab.take w):=by rw[asB,if_pos hk1,hw]
  have hp16':((w:Int)≤16)=True:=eq_true (by omega)
  simp(disch:=omega)[nz,hn4',hsh,hp16',hn0,hpure,hc1,hc2,hasb,asBV,FV,hbk,hb2,hb,hg,hl,htk,hd0,hz60,ap0,apk,set0,setk,leTn,leFn,hne',t1,t36,hk]
 ·have hk:((a.kind:Int)==1)=false:=beqF (by omega)
  by_cases hk0:a.kind=0
  ·have hk0':((a.kind:Int) !=0)=false:=bneF (by omega)
   have hfc:=zhO (G:=G) a.f hao.1
   have hpf:=zaj (k:=.u32) hao.1
   have hsh:∀ r:List Blk,True:=fun _=>trivial
   cases hc:zaZ a.f with
   | some c =>
    have hasb:asB a=some ([],[c]):=by rw[asB,if_neg hk1,if_pos hk0,hc]
    simp(disch:=omega)[-List.reduceReplicate,nz,hk0',hasb,asBV,FV,hbk,hb2,hb,hg,hl,htk,hd0,hz60,ap0,apk,set0,setk,leTn,leFn,hne',t1,t35,t35',hk]
    refine zab hfc ?_
    simp(disch:=omega)[-List.reduceReplicate,hc,nz,hk0',hasb,asBV,FV,hbk,hb2,hb,hg,hl,htk,hd0,hz60,ap0,apk,set0,setk,leTn,leFn,hne',t1,t35,t35',hk]
    refine zab (zo5 (by infer_instance) c) ?_
    simp(disch:=omega)[-List.reduceReplicate,hc,nz,hk0',hasb,asBV,FV,hbk,hb2,hb,hg,hl,htk,hd0,hz60,ap0,apk,set0,setk,leTn,leFn,hne',t1,t35,t35',hk]
   | none =>
    have hl3:(fSub (ones::zae 34) a.f).length=35:=by simp[fSub,hao.1]
    obtain⟨tf,htf⟩:∃ tf,tf=fSub (ones::zae 34) a.f:=⟨_,rfl⟩
    have hsu:=zmK (G:=G) (ones::zae 34) a.f (by simp) hao.1 hw
    rw[←htf] at hl3 hsu
    have hpt:=zaj (k:=.u32) hl3
    have hd35:(zad .u32 (zae 35)).drop 35=[]:=rfl
    simp(disch:=omega)[-List.reduceReplicate,nz,hk0',hbk,hb2,hb,hg,hl,htk,hd0,hz60,ap0,apk,set0,setk,leTn,leFn,hne',t1,t35,t35',hk]
    refine zab hfc ?_
    simp(disch:=omega)[-List.reduceReplicate,hc,nz,hk0',hbk,hb2,hb,hg,hl,htk,hd0,hz60,ap0,apk,set0,setk,leTn,leFn,hne',t1,t35,t35',hk]
    refine zab (zik 4294967295) ?_
    simp(disch:=omega)[-List.reduceReplicate,hc,nz,hk0',hbk,hb2,hb,hg,hl,htk,hd0,hz60,ap0,apk,set0,setk,leTn,leFn,hne',t1,t35,t35',hk]
    refine zab hsu ?_
    simp(disch:=omega)[-List.reduceReplicate,hc,nz,hk0',hbk,hb2,hb,hg,hl,htk,hd0,hz60,ap0,apk,set0,setk,leTn,leFn,hne',t1,t35,t35',hk,hl3,hpt,hpf,hao.1,hd35]
    have h3:Bk (H++[some (.cells [.vs [] .full,.vs [] .full]),some (.cells a.cs),some (.cells (zad .u32 tf))]) b z m L:=h.app fun n=>by simp[Blk.cl,clL,V.cl,Nd.cs_cl]
    have hb3:=h3.shut.back
    have hs3:=h3.shut.self
    simp at hb3 hs3
    have hsl:(((List.replicate 2 (zad .u32 (zae 35))).set 0 (zad .u32 a.f)).set 1 (zad .u32 tf))=[zad .u32 a.f,zad .u32 tf]:=rfl
    rw[hsl]
    refine W_up 2 (fun i=>[(4,.ptr H.length 0),(6,.ptr (H.length+1) 0),(56,.vs [zad .u32 a.f,zad .u32 tf] .full),(57,.int .i64 2),(58,.int .i64 i)]) (fun _=>H++[some (.cells [.vs [] .full,.vs [] .full]),some (.cells a.cs),some (.cells (zad .u32 tf))])
     (fun i=>(0<i→fOne a.f=none)∧(1<i→fOne tf=none)) ?_ ?_
    ·simp[zaa,hs3]
    intro i hi hp
    by_cases hlt:i<2
    ·obtain⟨g,hgg,hgl,hgi⟩:∃ g,[zad .u32 a.f,zad .u32 tf][i]?=some (zad .u32 g)∧g.length=35∧(i=0∧g=a.f∨i=1∧g=tf):=by
      rcases(show i=0∨i=1 by omega) with rfl|rfl
      ·exact⟨a.f,rfl,hao.1,.inl ⟨rfl,rfl⟩⟩
      ·exact⟨tf,rfl,hl3,.inr ⟨rfl,rfl⟩⟩
     have hog:=zwk (G:=G) g hgl
     have htg:=zaj (k:=.u32) hgl
     have hge:([zad .u32 a.f,zad .u32 tf][i]'(by simp; omega))=zad .u32 g:=(List.getElem?_eq_some_iff.1 hgg).2
     have heq:=zhy .u32 (n:=35) (a:=g) (b:=a.f) hgl hao.1
     have hb4:∀(r:Heap),zac (H.length+3) (H++some (.cells [.vs [] .full,.vs [] .full])::some (.cells a.cs)::some (.cells (zad .u32 tf))::r)=H++[some (.cells [.vs [] .full,.vs [] .full]),some (.cells a.cs),some (.cells (zad .u32 tf))]:=fun r=>by
      have:=h3.shut.back r
      simpa using this
     simp(disch:=omega)[-List.reduceReplicate,ltT,hlt,hge,hgl,htg,hd35,ap0,apk,set0,setk,leTn,leFn]
     refine zab hog ?_
     cases hog2:fOne g with
     | none =>
      have hp':fOne a.f=none∧(0<i→fOne tf=none):=by
       rcases hgi with⟨rfl,rfl⟩|⟨rfl,rfl⟩
       ·exact⟨hog2,fun h=>by omega⟩
       ·exact⟨hp.1 (by omega),fun _=>hog2⟩
      simp(disch:=omega)[-List.reduceReplicate,ltT,hlt,hge,hgl,htg,hd35,ap0,apk,set0,setk,leTn,leFn,-Int.natCast_add,zag,zaa,hp',hb4]
      exact hp'.2
     | some j =>
      have hj:j<34:=by
       have:=List.mem_of_find?_eq_some hog2
       exact List.mem_range.1 this
      have hv:=zxw (G:=G) (by infer_instance) (j:Int)
      rw[if_pos ⟨by omega,by omega⟩] at hv
      simp(disch:=omega)[-List.reduceReplicate,ltT,hlt,hge,hgl,htg,hd35,ap0,apk,set0,setk,leTn,leFn]
      refine zab hv ?_
      simp(disch:=omega)[FV,-List.reduceReplicate,ltT,hlt,hge,hgl,htg,hd35,ap0,apk,set0,setk,leTn,leFn,t1,t35,t35',hao.1,hl,hpf]
      rcases hgi with⟨rfl,rfl⟩|⟨rfl,rfl⟩
      ·have hasb:asB a=some ([(j:Int)],[0,ones]):=by rw[asB,if_neg hk1,if_pos hk0,hc]; simp only[hog2]
       simp only[decide_true] at heq
       simp(disch:=omega)[hasb,asBV,FV,ones,hbk,-List.reduceReplicate,heq,ap0,apk,set0,setk,leTn,leFn]
      ·have hne2:g≠a.f:=fun e=>by rw[e,hp.1 (by omega)] at hog2; cases hog2
       have hasb:asB a=some ([(j:Int)],[ones,0]):=by rw[asB,if_neg hk1,if_pos hk0,hc]; simp only[hp.1 (by omega),←htf,hog2]
       rw[decide_eq_false hne2] at heq
       simp(disch:=omega)[hasb,asBV,FV,ones,hbk,-List.reduceReplicate,heq,ap0,apk,set0,setk,leTn,leFn]
       refine zab (zo5 (by infer_instance) 4294967295) ?_
       simp(disch:=omega)[hasb,asBV,FV,ones,hbk,-List.reduceReplicate,heq,ap0,apk,set0,setk,leTn,leFn]
       have hx:=ztD (G:=G) j hj
       simp only[FV,ones] at hx
       refine zab hx ?_
       simp(disch:=omega)[hasb,asBV,FV,ones,hbk,-List.reduceReplicate,heq,ap0,apk,set0,setk,leTn,leFn]
    ·obtain rfl:i=2:=by omega
     have h1:=hp.1 (by omega)
     have h2:=hp.2 (by omega)
     have hasb:asB a=none:=by rw[asB,if_neg hk1,if_pos hk0,hc]; simp only[h1,←htf,h2]
     simp(disch:=omega)[-List.reduceReplicate,hasb,asBV,hbk,ap0,apk,set0,setk,leTn,leFn]
  ·have hasb:asB a=none:=by rw[asB,if_neg hk1,if_neg hk0]
   have hk0':((a.kind:Int) !=0)=true:=bneT (by omega)
   simp(disch:=omega)[-List.reduceReplicate,nz,hk0',hasb,asBV,FV,hbk,hb2,hb,hg,hl,htk,hd0,hz60,ap0,apk,set0,setk,leTn,leFn,hne',t1,t36,hk]
end Go.Ev
/- Work on two values of a book. -/
namespace Go.Ev
open Go Go.RowKit
variable {G:Tbl}
variable {H:Heap} {b z m:Nat} {L:List Nd}
def Nd.wf(a:Nd):Prop:=(∀ c∈a.f,c<4294967296)∧(a.kind=1→Right ((a.vars.take a.n).map fun(x:Nat)=>(x:Int)) (a.tab.take (2^a.n))∧a.n≤4∧∀ w∈a.tab,w<4294967296)
def zau(a:Nd):Option Nat:=if a.kind=0 then zaZ a.f else none
theorem zgf[HasSym G](x:Nat)(a:Nd)(h:Bk H b z m L)(hx:L[x]?=some a):SF G 264 [.ptr b 0,.int .i64 x] H (.tup [.agg (zad .u32 a.f),.bool (decide (a.kind=0))]) H :=
 ⟨_,_,zut x a h hx,by simp,h.shut.back _⟩
theorem zfr[HasSym G](i:Int)(h:Bk H b z m L):SF G 258 [.ptr b 0,.int .i64 i] H (.bool (hasI L i)) H :=
 ⟨_,_,zxz i h,rfl,h.shut.self⟩
def constI(L:List Nd)(i:Int):Option Nat:=if hasI L i then(L[i.toNat]?).bind zau else none
theorem zjv[HasAffine G][HasSym G](i:Int)(h:Bk H b z m L):SF G 266 [.ptr b 0,.int .i64 i] H (.tup [.int .u32 ((constI L i).getD 0:Nat),.bool (constI L i).isSome]) H:=by
 refine zbz HasSym.h_sym_Book_Constant (Nat.le_of_ble_eq_true rfl) ?_
 have hbk:=h.shut.back
 have hs:=h.shut.self
 have hd35:(zad .u32 (zae 35)).drop 35=[]:=rfl
 simp
 refine zai (zfr i h) ?_
 cases hi:hasI L i
 ·simp[hs,constI,hi]
 ·obtain⟨h0,h1⟩:0≤i∧i<L.length:=by simpa[hasI] using hi
  obtain⟨n,rfl⟩:=Int.eq_ofNat_of_zero_le h0
  have hn:n<L.length:=by omega
  obtain⟨a,ha⟩:∃ a,L[n]?=some a:=⟨_,zal hn⟩
  have hao:=h.ok a (List.mem_of_getElem? ha)
  have hpf:=zaj (k:=.u32) hao.1
  have hci:constI L n=zau a:=by simp[constI,hi,ha]
  rw[hci]
  simp
  refine zai (zgf n a (h.app (r:=[none]) fun n=>by simp) ha) ?_
  by_cases hk:a.kind=0
  ·have hca:zau a=zaZ a.f:=by rw[zau,if_pos hk]
   simp[hk,hca,hd35,hao.1,hpf,ap0]
   refine zab (zhO a.f hao.1) ?_
   simp[hbk]
  ·have hca:zau a=none:=by rw[zau,if_neg hk]
   simp[hk,hca,hd35,hao.1,hpf,hbk]
abbrev R3:=Int×Bool×List Nd
def okP(p:Int×List Nd):R3:=(p.1,true,p.2)
def noR(L:List Nd):R3:=(0,false,L)
def zaz(L:List Nd)(kind:Int)(a c:Nd):R3 :=
 if a.kind=0∧c.kind=0 then
  if kind=4 then okP (putN L (zas (fAdd a.f c.f)))
  else if kind=20 then okP (putN L (zas (fSub a.f c.f)))
  else match zaZ a.f,zaZ c.f with
   | some u,some v=>if kind=36 then okP (putN L (zas (fMul a.f v))) else if kind=100 then okP (putN L (zas (fMul a.f (doW 100 1 v).1)))
    else((putN L (zas ((doW kind u v).1::zae 34))).1,(doW kind u v).2,(putN L (zas ((doW kind u v).1::zae 34))).2)
   | none,some v=>if kind=36 then okP (putN L (zas (fMul a.f v))) else if kind=100 then okP (putN L (zas (fMul a.f (doW 100 1 v).1))) else noR L
   | some u,none=>if kind=36 then okP (putN L (zas (fMul c.f u))) else noR L
   | none,none=>noR L
 else noR L
def BF3(G:Tbl)(f:Nat)(args:List V)(H:Heap)(b z m:Nat)(p:R3):Prop:=SF G f (.ptr b 0::args) H (.tup [.int .i64 p.1,.bool p.2.1]) (upd H b z m p.2.2)
theorem zbq{f:List Nat}{c:Nat}(h:zaZ f=some c)(hw:∀ x∈f,x<4294967296):c<4294967296:=by
 rw[zaZ] at h
 split at h
 ·exact hw c (List.mem_of_mem_head? h)
 ·cases h
theorem zvF[HasWd G][HasAffine G][HasSym G](kind:Int)(x y:Nat)(a c:Nd)(h:Bk H b z m L)(hs:L.length<1000000)(hx:L[x]?=some a)(hy:L[y]?=some c)(ha:a.wf)(hc:c.wf) :
  BF3 G 267 [.int .i64 kind,.int .i64 x,.int .i64 y] H b z m (zaz L kind a c):=by
 refine zbz HasSym.h_sym_Book_sums (Nat.le_of_ble_eq_true rfl) ?_
 have hd35:(zad .u32 (zae 35)).drop 35=[]:=rfl
 have hao:=h.ok a (List.mem_of_getElem? hx)
 have hco:=h.ok c (List.mem_of_getElem? hy)
 have hpa:=zaj (k:=.u32) hao.1
 have hpc:=zaj (k:=.u32) hco.1
 have h1:Bk (H++[some (.cells (zad .u32 a.f))]) b z m L:=h.app fun n=>by simp[Blk.cl]
 have h2:Bk (H++[some (.cells (zad .u32 a.f)),some (.cells (zad .u32 c.f))]) b z m L:=h.app fun n=>by simp[Blk.cl]
 have hsh:=h.shut.back
 have hs1:=h1.shut.self
 have hs2:=h2.shut.self
 have hu:∀ L',upd (H++[some (.cells (zad .u32 a.f)),some (.cells (zad .u32 c.f))]) b z m L'=upd H b z m L'++[some (.cells (zad .u32 a.f)),some (.cells (zad .u32 c.f))]:=fun L'=>h.upd_app _ L'
 have hbk:∀ L' r,zac H.length (upd H b z m L'++r)=upd H b z m L':=fun L' r=>h.back L' r
 have hus:=h.upd_self
 simp at hs1 hs2
 simp
 refine zai (zgf x a (h.app (r:=[none]) fun n=>by simp) hx) ?_
 simp[hd35,hao.1,hpa,ap0,apk,set0,setk,hs1]
 refine zai (zgf y c (h.app (r:=[some (.cells (zad .u32 a.f)),none]) fun n=>by simp[Blk.cl]) hy) ?_
 simp[hd35,hao.1,hpa,hco.1,hpc,ap0,apk,set0,setk,hs2]
 by_cases hka:a.kind=0
 case neg=>simp[hka,zaz,noR,hus,hsh]
 by_cases hkc:c.kind=0
 case neg=>simp[hka,hkc,zaz,noR,hus,hsh]
 have hfa:=zhO (G:=G) a.f hao.1
 have hfc:=zhO (G:=G) c.f hco.1
 simp[hka,hkc,hd35,hao.1,hpa,hco.1,hpc,ap0,apk,set0,setk,leTn,leFn,hs2]
 refine zab hfa ?_
 simp[hka,hkc,hd35,hao.1,hpa,hco.1,hpc,ap0,apk,set0,setk,leTn,leFn,hs2]
 refine zab hfc ?_
 simp[hka,hkc,hd35,hao.1,hpa,hco.1,hpc,ap0,apk,set0,setk,leTn,leFn,hs2]
 have hls:(fSub a.f c.f).length=35:=by simp[fSub,hao.1,hco.1]
 have hla:(fAdd a.f c.f).length=35:=by simp[fAdd,hao.1,hco.1]
 have hlm:∀ k,(fMul a.f k).length=35:=fun k=>by simp[fMul,hao.1]
 have hlm':∀ k,(fMul c.f k).length=35:=fun k=>by simp[fMul,hco.1]
 by_cases k4:kind=4
 ·subst k4
  have hR:zaz L 4 a c=okP (putN L (zas (fAdd a.f c.f))):=by simp[zaz,hka,hkc]
  simp[hka,hkc,hd35,hao.1,hpa,hco.1,hpc,ap0,apk,set0,setk,leTn,leFn,hs2,hu,hbk]
  refine zab (zwj a.f c.f hao.1 hco.1) ?_
  simp[hka,hkc,hd35,hao.1,hpa,hco.1,hpc,ap0,apk,set0,setk,leTn,leFn,hs2,hu,hbk]
  refine zai (zee (fAdd a.f c.f) hla h2 hs) ?_
  simp[hka,hkc,hd35,hao.1,hpa,hco.1,hpc,ap0,apk,set0,setk,leTn,leFn,hs2,hu,hbk,hR,okP,putN]
 by_cases k20:kind=20
 ·subst k20
  have hR:zaz L 20 a c=okP (putN L (zas (fSub a.f c.f))):=by simp[zaz,hka,hkc]
  simp[hka,hkc,hd35,hao.1,hpa,hco.1,hpc,ap0,apk,set0,setk,leTn,leFn,hs2,hu,hbk]
  refine zab (zmK a.f c.f hao.1 hco.1 hc.1) ?_
  simp[hka,hkc,hd35,hao.1,hpa,hco.1,hpc,ap0,apk,set0,setk,leTn,leFn,hs2,hu,hbk]
  refine zai (zee (fSub a.f c.f) hls h2 hs) ?_
  simp[hka,hkc,hd35,hao.1,hpa,hco.1,hpc,ap0,apk,set0,setk,leTn,leFn,hs2,hu,hbk,hR,okP,putN]
 by_cases k36:kind=36
 ·subst k36
  cases eu:zaZ a.f<;>cases ev:zaZ c.f
  ·have hR:zaz L 36 a c=noR L:=by simp[zaz,hka,hkc,eu,ev]
   simp[hka,hkc,hd35,hao.1,hpa,hco.1,hpc,ap0,apk,set0,setk,leTn,leFn,hs2,hu,hbk,hR,noR,hus,hsh]
  ·rename_i v
   have hR:zaz L 36 a c=okP (putN L (zas (fMul a.f v))):=by simp[zaz,hka,hkc,eu,ev]
   simp[hka,hkc,hd35,hao.1,hpa,hco.1,hpc,ap0,apk,set0,setk,leTn,leFn,hs2,hu,hbk]
   refine zab (zkG a.f v hao.1) ?_
   simp[hka,hkc,hd35,hao.1,hpa,hco.1,hpc,ap0,apk,set0,setk,leTn,leFn,hs2,hu,hbk]
   refine zai (zee (fMul a.f v) (hlm v) h2 hs) ?_
   simp[hka,hkc,hd35,hao.1,hpa,hco.1,hpc,ap0,apk,set0,setk,leTn,leFn,hs2,hu,hbk,hR,okP,putN]
  ·rename_i u
   have hR:zaz L 36 a c=okP (putN L (zas (fMul c.f u))):=by simp[zaz,hka,hkc,eu,ev]
   simp[hka,hkc,hd35,hao.1,hpa,hco.1,hpc,ap0,apk,set0,setk,leTn,leFn,hs2,hu,hbk]
   refine zab (zkG c.f u hco.1) ?_
   simp[hka,hkc,hd35,hao.1,hpa,hco.1,hpc,ap0,apk,set0,setk,leTn,leFn,hs2,hu,hbk]
   refine zai (zee (fMul c.f u) (hlm' u) h2 hs) ?_
   simp[hka,hkc,hd35,hao.1,hpa,hco.1,hpc,ap0,apk,set0,setk,leTn,leFn,hs2,hu,hbk,hR,okP,putN]
  ·rename_i u v
   have hR:zaz L 36 a c=okP (putN L (zas (fMul a.f v))):=by simp[zaz,hka,hkc,eu,ev]
   simp[hka,hkc,hd35,hao.1,hpa,hco.1,hpc,ap0,apk,set0,setk,leTn,leFn,hs2,hu,hbk]
   refine zab (zkG a.f v hao.1) ?_
   simp[hka,hkc,hd35,hao.1,hpa,hco.1,hpc,ap0,apk,set0,setk,leTn,leFn,hs2,hu,hbk]
   refine zai (zee (fMul a.f v) (hlm v) h2 hs) ?_
   simp[hka,hkc,hd35,hao.1,hpa,hco.1,hpc,ap0,apk,set0,setk,leTn,leFn,hs2,hu,hbk,hR,okP,putN]
 have b4:(kind==4)=false:=beqF k4
 have b20:(kind==20)=false:=beqF k20
 have b36:(kind==36)=false:=beqF k36
 by_cases k100:kind=100
 ·subst k100
  cases ev:zaZ c.f with
  | none =>
   have hR:zaz L 100 a c=noR L:=by cases eu:zaZ a.f<;>simp[zaz,hka,hkc,eu,ev]
   cases eu:zaZ a.f<;>simp[hka,hkc,hd35,hao.1,hpa,hco.1,hpc,ap0,apk,set0,setk,leTn,leFn,hs2,hu,hbk,hR,noR,hus,hsh]
  | some v =>
   have hR:zaz L 100 a c=okP (putN L (zas (fMul a.f (doW 100 1 v).1))):=by cases eu:zaZ a.f<;>simp[zaz,hka,hkc,eu,ev]
   have hdo:=zix (G:=G) (by infer_instance) 100 1 v (by decide) (zbq ev hc.1)
   simp at hdo
   simp[hka,hkc,hd35,hao.1,hpa,hco.1,hpc,ap0,apk,set0,setk,leTn,leFn,hs2,hu,hbk]
   refine zab hdo ?_
   simp[hka,hkc,hd35,hao.1,hpa,hco.1,hpc,ap0,apk,set0,setk,leTn,leFn,hs2,hu,hbk]
   refine zab (zkG a.f (doW 100 1 v).1 hao.1) ?_
   simp[hka,hkc,hd35,hao.1,hpa,hco.1,hpc,ap0,apk,set0,setk,leTn,leFn,hs2,hu,hbk]
   refine zai (zee (fMul a.f (doW 100 1 v).1) (hlm _) h2 hs) ?_
   simp[hka,hkc,hd35,hao.1,hpa,hco.1,hpc,ap0,apk,set0,setk,leTn,leFn,hs2,hu,hbk,hR,okP,putN]
 have b100:(kind==100)=false:=beqF k100
 cases eu:zaZ a.f with
 | none =>
  have hR:zaz L kind a c=noR L:=by cases ev:zaZ c.f<;>simp[zaz,hka,hkc,eu,ev,k4,k20,k36,k100]
  simp[hka,hkc,hd35,hao.1,hpa,hco.1,hpc,ap0,apk,set0,setk,leTn,leFn,hs2,hu,hbk,b4,b20,b36,b100,hR,noR,hus,hsh]
 | some u =>
  cases ev:zaZ c.f with
  | none =>
   have hR:zaz L kind a c=noR L:=by simp[zaz,hka,hkc,eu,ev,k4,k20,k36,k100]
   simp[hka,hkc,hd35,hao.1,hpa,hco.1,hpc,ap0,apk,set0,setk,leTn,leFn,hs2,hu,hbk,b4,b20,b36,b100,hR,noR,hus,hsh]
  | some v =>
   have hR:zaz L kind a c=((putN L (zas ((doW kind u v).1::zae 34))).1,(doW kind u v).2,(putN L (zas ((doW kind u v).1::zae 34))).2):=by simp[zaz,hka,hkc,eu,ev,k4,k20,k36,k100]
   have hdo:=zix (G:=G) (by infer_instance) kind u v (zbq eu ha.1) (zbq ev hc.1)
   simp[hka,hkc,hd35,hao.1,hpa,hco.1,hpc,ap0,apk,set0,setk,leTn,leFn,hs2,hu,hbk,b4,b20,b36,b100]
   refine zab hdo ?_
   simp[hka,hkc,hd35,hao.1,hpa,hco.1,hpc,ap0,apk,set0,setk,leTn,leFn,hs2,hu,hbk]
   refine zai (zeI (doW kind u v).1 h2 hs) ?_
   simp[hka,hkc,hd35,hao.1,hpa,hco.1,hpc,ap0,apk,set0,setk,leTn,leFn,hs2,hu,hbk,hR,putN]
end Go.Ev
/- Work on bits of a book, and what is known of all numbers. -/
namespace Go.Ev
open Go Go.RowKit
variable {G:Tbl}
variable {H:Heap} {b z m:Nat} {L:List Nd}
theorem zkp{f:List Nat}{i:Nat}(h:fOne f=some i):i<34:=List.mem_range.1 (List.mem_of_find?_eq_some h)
theorem zdy{a:Nd}{p:List Int×List Nat}(ha:a.wf)(h:asB a=some p):Right p.1 p.2∧∀ w∈p.2,w<4294967296:=by
 rw[asB] at h
 split at h
 ·rename_i hk
  obtain⟨h1,h2,h3⟩:=ha.2 hk
  cases h
  exact⟨h1,fun w hw=>h3 w (List.mem_of_mem_take hw)⟩
 ·split at h
  ·split at h
   ·rename_i c hc
    cases h
    exact⟨⟨by simp,by simp,fun j hj=>by simp at hj⟩,fun w hw=>by rw[List.mem_singleton.1 hw]; exact zbq hc ha.1⟩
   ·split at h
    ·rename_i i hi
     cases h
     exact⟨(zju i (zkp hi)).1,by simp[ones]⟩
    ·split at h
     ·rename_i i hi
      cases h
      exact⟨(zju i (zkp hi)).2,by simp[ones]⟩
     ·cases h
  ·cases h
open Classical in
noncomputable def bdo(kind:Int)(p q:List Int×List Nat):Option (List Int×List Nat) :=
 if h:DoOk kind p.1 q.1 p.2 q.2∧∃ r:List Int×List Nat,Right r.1 r.2∧(∀ w∈r.2,w<4294967296)∧∀ s,sem r.1 r.2 s=(doW kind (sem p.1 p.2 s) (sem q.1 q.2 s)).1 then some (Classical.choose h.2) else none
def bdoV(o:Option (List Int×List Nat)):V:=match o with
 | some p=>.tup [FV p.1 p.2,.bool true]
 | none=>.tup [FV [] [],.bool false]
theorem ziJ{kind:Int}{p q r:List Int×List Nat}(h:bdo kind p q=some r):DoOk kind p.1 q.1 p.2 q.2∧Right r.1 r.2∧(∀ w∈r.2,w<4294967296)∧∀ s,sem r.1 r.2 s=(doW kind (sem p.1 p.2 s) (sem q.1 q.2 s)).1:=by
 rw[bdo] at h
 split at h
 ·rename_i hh
  cases h
  exact⟨hh.1,Classical.choose_spec hh.2⟩
 ·cases h
theorem zwW[hG:HasBits G](kind:Int)(p q:List Int×List Nat)(hp:Right p.1 p.2)(hq:Right q.1 q.2)(hpw:∀ w∈p.2,w<4294967296)(hqw:∀ w∈q.2,w<4294967296) :
  FP G 109 [.int .i64 kind,FV p.1 p.2,FV q.1 q.2] (bdoV (bdo kind p q))∧(bdo kind p q=none→¬DoOk kind p.1 q.1 p.2 q.2):=by
 have h1:=hp.1
 have h2:=hq.1
 have h3:=zcd h1 hp.2.1
 have h4:=zcd h2 hq.2.1
 obtain⟨r,hr,h|⟨hok,vs',tab',rfl,hR',hw',hs'⟩⟩:=zu9 hG kind p.1 q.1 p.2 q.2 (by omega) (by omega) (by omega) (by omega) hpw hqw
 ·have e:bdo kind p q=none:=by rw[bdo,dif_neg (fun hh=>h.1 hh.1)]
  rw[e]
  obtain⟨h1,rfl⟩:=h
  exact⟨hr,fun _=>h1⟩
 ·have hh:DoOk kind p.1 q.1 p.2 q.2∧∃ r:List Int×List Nat,Right r.1 r.2∧(∀ w∈r.2,w<4294967296)∧∀ s,sem r.1 r.2 s=(doW kind (sem p.1 p.2 s) (sem q.1 q.2 s)).1:=⟨hok,(vs',tab'),hR',hw',hs'⟩
  have e:bdo kind p q=some (Classical.choose hh.2):=by rw[bdo,dif_pos hh]
  obtain⟨_,R,W,S⟩:=ziJ e
  rw[e]
  refine⟨?_,fun h=>by cases h⟩
  obtain⟨e1,e2⟩:=zvm hR' R fun s=>by rw[hs',S]
  rw[bdoV,←e1,←e2]
  exact hr
noncomputable def zaA(L:List Nd)(kind:Int)(a c:Nd):R3 :=
 match asB a,asB c with
 | some p,some q=>(match bdo kind p q with|some r=>okP (zb4 L r.1 r.2)|none=>noR L)
 | _,_=>noR L
theorem zcQ[HasAffine G][HasBits G][HasSym G](x:Nat)(a:Nd)(h:Bk H b z m L)(hx:L[x]?=some a)(ha:a.wf):SF G 265 [.ptr b 0,.int .i64 x] H (asBV (asB a)) H :=
 zrS x a h hx (fun hk=>(ha.2 hk).2.1) ha.1
def asBC(o:Option (List Int×List Nat)):List V:=match o with
 | some p=>[.vs (ints .i64 p.1) .no,.vs (nats .u32 p.2) .no]
 | none=>[.vs [] .full,.vs [] .full]
theorem zgW(o:Option (List Int×List Nat)):asBV o=.tup [.agg (asBC o),.bool o.isSome]:=by cases o<;>rfl
theorem zel(o:Option (List Int×List Nat)):(asBC o).length=2:=by cases o<;>rfl
theorem zgX(o:Option (List Int×List Nat))(n:Nat):clL n (asBC o)=asBC o:=by cases o<;>simp[asBC,clL,V.cl]
theorem zgY(o:Option (List Int×List Nat)):(asBC o).take 2=asBC o:=List.take_of_length_le (by simp[zel])
theorem ztE[HasAffine G][HasBits G][HasSym G](kind:Int)(x y:Nat)(a c:Nd)(h:Bk H b z m L)(hs:L.length<1000000)(hx:L[x]?=some a)(hy:L[y]?=some c)(ha:a.wf)(hc:c.wf) :
  BF3 G 268 [.int .i64 kind,.int .i64 x,.int .i64 y] H b z m (zaA L kind a c):=by
 refine zbz HasSym.h_sym_Book_both (Nat.le_of_ble_eq_true rfl) ?_
 have h1:Bk (H++[some (.cells (asBC (asB a)))]) b z m L:=h.app fun n=>by simp[Blk.cl,zgX]
 have h2:Bk (H++[some (.cells (asBC (asB a))),some (.cells (asBC (asB c)))]) b z m L:=h.app fun n=>by simp[Blk.cl,zgX]
 have hsh:=h.shut.back
 have hs1:=h1.shut.self
 have hs2:=h2.shut.self
 have hbk:∀ L' r,zac H.length (upd H b z m L'++r)=upd H b z m L':=fun L' r=>h.back L' r
 have hus:=h.upd_self
 simp at hs1 hs2
 simp
 refine zai (zcQ x a (h.app (r:=[none]) fun n=>by simp) hx ha) ?_
 simp[zgW,zel,zgY,ap0,apk,set0,setk,hs1]
 refine zai (zcQ y c (h.app (r:=[some (.cells (asBC (asB a))),none]) fun n=>by simp[Blk.cl,zgX]) hy hc) ?_
 simp[zgW,zel,zgY,ap0,apk,set0,setk,hs2]
 cases ea:asB a with
 | none => 
  have hR:zaA L kind a c=noR L:=by simp[zaA,ea]
  simp[hR,noR,hus,hsh]
 | some p =>
  cases ec:asB c with
  | none =>
   have hR:zaA L kind a c=noR L:=by simp[zaA,ea,ec]
   simp[hR,noR,hus,hsh]
  | some q =>
   obtain⟨hp,hpw⟩:=zdy ha ea
   obtain⟨hq,hqw⟩:=zdy hc ec
   obtain⟨hdo,hno⟩:=zwW (G:=G) kind p q hp hq hpw hqw
   simp[ea,ec] at hs2 h2
   simp[hs2,ap0,apk,set0,setk,asBC]
   simp only[FV] at hdo
   refine zab hdo ?_
   cases er:bdo kind p q with
   | none =>
    have hR:zaA L kind a c=noR L:=by simp[zaA,ea,ec,er]
    simp[bdoV,FV,hR,noR,hus,hsh,ap0,apk,set0,setk]
   | some r =>
    have hR:zaA L kind a c=okP (zb4 L r.1 r.2):=by simp[zaA,ea,ec,er]
    simp[bdoV,FV,hR,okP,ap0,apk,set0,setk]
    have h3:Bk (H++[some (.cells [.vs (ints .i64 p.1) .no,.vs (nats .u32 p.2) .no]),some (.cells [.vs (ints .i64 q.1) .no,.vs (nats .u32 q.2) .no]),some (.cells [.vs (ints .i64 r.1) .no,.vs (nats .u32 r.2) .no])]) b z m L :=
     h.app fun n=>by simp[Blk.cl,clL,V.cl]
    have hu:=h.upd_app [some (.cells [.vs (ints .i64 p.1) .no,.vs (nats .u32 p.2) .no]),some (.cells [.vs (ints .i64 q.1) .no,.vs (nats .u32 q.2) .no]),some (.cells [.vs (ints .i64 r.1) .no,.vs (nats .u32 r.2) .no])] (zb4 L r.1 r.2).2
    refine zai (ztC r.1 r.2 (ziJ er).2.1 h3 hs) ?_
    simp[hu,hbk]
def zap(kind:Int)(cy:Option Nat)(x y:Int):Int×Bool :=
 if kind=4∨kind=20∨kind=100∨kind=116 then(x,decide (cy=some 0)) else if kind=68 then(x,decide (cy=some 0)||decide (x=y)) else if kind=164 then(x,decide (cy=some 0))
 else if kind=84 then(x,decide (cy=some ones)||decide (x=y)) else(0,false)
theorem zm6[HasAffine G][HasSym G](kind x y:Int)(h:Bk H b z m L) :
  SF G 269 [.ptr b 0,.int .i64 kind,.int .i64 x,.int .i64 y] H (.tup [.int .i64 (zap kind (constI L y) x y).1,.bool (zap kind (constI L y) x y).2]) H:=by
 refine zbz HasSym.h_sym_Book_plain (Nat.le_of_ble_eq_true rfl) ?_
 have hs:=h.shut.self
 simp
 refine zai (zjv y h) ?_
 have xy:((x==y):Bool)=decide (x=y):=by rw[Bool.eq_iff_iff]; simp
 have tail:∀(u w:Bool),u=decide (constI L y=some 0)→w=decide (constI L y=some ones)→True:=fun _ _ _ _=>trivial
 cases hc:constI L y with
 | none =>
  simp[hs]
  by_cases k4:kind=4
  ·subst k4; simp[hs,zap]
  by_cases k20:kind=20
  ·subst k20; simp[hs,zap]
  by_cases k100:kind=100
  ·subst k100; simp[hs,zap]
  by_cases k116:kind=116
  ·subst k116; simp[hs,zap]
  by_cases k68:kind=68
  ·subst k68; simp[hs,zap,xy]
  by_cases k164:kind=164
  ·subst k164; simp[hs,zap]
  by_cases k84:kind=84
  ·subst k84; simp[hs,zap,xy]
  simp[hs,zap,beqF k4,beqF k20,beqF k100,beqF k116,beqF k68,beqF k164,beqF k84,k4,k20,k100,k116,k68,k164,k84]
 | some c =>
  have e0:((c:Int)==0)=decide (c=0):=by rw[Bool.eq_iff_iff]; simp
  have e1:((c:Int)==4294967295)=decide (c=4294967295):=by rw[Bool.eq_iff_iff]; simp; omega
  simp[hs,e0,e1]
  by_cases k4:kind=4
  ·subst k4; simp[hs,zap]
  by_cases k20:kind=20
  ·subst k20; simp[hs,zap]
  by_cases k100:kind=100
  ·subst k100; simp[hs,zap]
  by_cases k116:kind=116
  ·subst k116; simp[hs,zap]
  by_cases k68:kind=68
  ·subst k68
   by_cases c0:c=0
   ·simp[hs,zap,xy,c0]
   ·simp[hs,zap,xy,c0]
  by_cases k164:kind=164
  ·subst k164; simp[hs,zap]
  by_cases k84:kind=84
  ·subst k84
   by_cases c1:c=4294967295
   ·simp[hs,zap,xy,c1,ones]
   ·simp[hs,zap,xy,c1,ones]
  simp[hs,zap,beqF k4,beqF k20,beqF k100,beqF k116,beqF k68,beqF k164,beqF k84,k4,k20,k100,k116,k68,k164,k84]
end Go.Ev
/- Books stay books: plain laws. -/
namespace Go.Ev
open Go Go.RowKit
variable {L:List Nd}
def Nd.good(n:Nat)(a:Nd):Prop:=a.ok∧a.wf∧(a.kind=0∨a.kind=1∨a.kind=2∧a.x<n∧a.y<n∧(doW a.op 0 1).2=true)
theorem Nd.good.mono{n k:Nat}{a:Nd}(h:a.good n)(hk:n≤k):a.good k:=⟨h.1,h.2.1,by rcases h.2.2 with h|h|⟨h,h1,h2,h3⟩; exact .inl h; exact .inr (.inl h); exact .inr (.inr ⟨h,by omega,by omega,h3⟩)⟩
structure Inv (L:List Nd):Prop where
 good:∀(i:Nat) (a:Nd),L[i]?=some a→a.good i
 one:L.Nodup
theorem Inv.ok(h:Inv L):∀ a∈L,a.ok:=fun a ha=>by obtain⟨i,hi⟩:=List.getElem?_of_mem ha; exact(h.good i a hi).1
theorem Inv.wf(h:Inv L):∀ a∈L,a.wf:=fun a ha=>by obtain⟨i,hi⟩:=List.getElem?_of_mem ha; exact(h.good i a hi).2.1
theorem Inv.nil:Inv []:=⟨fun i a h=>by simp at h,List.nodup_nil⟩
structure Ext (L L':List Nd) (k:Nat):Prop where
 pre:L <+: L'
 inv:Inv L'
 len:L'.length≤L.length+k
theorem Ext.refl(h:Inv L)(k:Nat):Ext L L k:=⟨List.prefix_refl L,h,by omega⟩
theorem Ext.trans{L' L'':List Nd}{k l:Nat}(h:Ext L L' k)(h':Ext L' L'' l):Ext L L'' (k+l):=⟨h.pre.trans h'.pre,h'.inv,by have:=h.len; have:=h'.len; omega⟩
theorem Ext.mono{L':List Nd}{k l:Nat}(h:Ext L L' k)(hk:k≤l):Ext L L' l:=⟨h.pre,h.inv,by have:=h.len; omega⟩
theorem zgZ{α:Type}{l l':List α}(h:l <+: l'){i:Nat}{a:α}(hi:l[i]?=some a):l'[i]?=some a:=by
 obtain⟨t,rfl⟩:=h
 rw[List.getElem?_append_left (List.getElem?_eq_some_iff.1 hi).1]
 exact hi
theorem Ext.get{L':List Nd}{k i:Nat}{a:Nd}(h:Ext L L' k)(hi:L[i]?=some a):L'[i]?=some a:=zgZ h.pre hi
theorem zbN(h:Inv L){a:Nd}(ha:a.good L.length):Ext L (putN L a).2 1∧∃ i:Nat,(putN L a).1=i∧(putN L a).2[i]?=some a:=by
 by_cases hm:a∈L
 ·have e:(putN L a).2=L:=by show insN L a=L; rw[insN,if_pos hm]
  refine⟨by rw[e]; exact .refl h 1,L.idxOf a,rfl,?_⟩
  rw[e,List.getElem?_eq_getElem (List.idxOf_lt_length_of_mem hm),List.getElem_idxOf]
 ·have e:(putN L a).2=L++[a]:=by show insN L a=_; rw[insN,if_neg hm]
  have e1:(putN L a).1=(L.length:Nat):=by show((L.idxOf a:Nat):Int)=_; rw[znz hm]
  refine⟨⟨by rw[e]; exact List.prefix_append _ _,?_,by rw[e]; simp⟩,L.length,e1,by rw[e]; simp⟩
  rw[e]
  refine⟨fun i x hx=>?_,?_⟩
  ·by_cases hi:i<L.length
   ·rw[List.getElem?_append_left hi] at hx; exact h.good i x hx
   ·have hlt:=(List.getElem?_eq_some_iff.1 hx).1
    simp at hlt
    obtain rfl:i=L.length:=by omega
    simp at hx
    subst hx; exact ha
  ·rw[List.nodup_append]
   exact⟨h.one,by simp,fun x hx y hy e'=>by simp at hy; rw[←hy,←e'] at hm; exact hm hx⟩
theorem zbV{f:List Nat}(hf:f.length=35)(hw:∀ c∈f,c<4294967296)(n:Nat):(zas f).good n:=⟨⟨hf,rfl,rfl⟩,⟨hw,fun h=>by cases h⟩,.inl rfl⟩
theorem zbA(n:Nat):∀ c∈zae n,c<4294967296:=fun c hc=>by rw[zae,List.mem_replicate] at hc; omega
theorem zcA{c:Nat}(hc:c<4294967296):∀ x∈c::zae 34,x<4294967296:=fun x hx=>by
 rcases List.mem_cons.1 hx with rfl|hx
 ·exact hc
 ·exact zbA 34 x hx
theorem zmq(i:Nat):∀ x∈varL i,x<4294967296:=fun x hx=>by
 rw[varL] at hx
 rcases List.mem_or_eq_of_mem_set hx with hx|rfl
 ·exact zbA 35 x hx
 ·omega
theorem ziK(i:Nat):(varL i).length=35:=by simp[varL]
theorem zoh{o:Nat→Nat→Nat}(ho:∀ a b,o a b<4294967296):∀(f g:List Nat),∀ x∈List.zipWith o f g,x<4294967296
 | [],_,x,hx=>by simp at hx
 | _::_,[],x,hx=>by simp at hx
 | a::f,b::g,x,hx=>by
  simp only[List.zipWith_cons_cons,List.mem_cons] at hx
  rcases hx with rfl|hx
  ·exact ho a b
  ·exact zoh ho f g x hx
theorem zp6(f g:List Nat):∀ x∈fAdd f g,x<4294967296:=zoh (fun a b=>Nat.mod_lt _ (by decide)) f g
theorem zmr(f g:List Nat):∀ x∈fSub f g,x<4294967296:=zoh (fun a b=>Nat.mod_lt _ (by decide)) f g
theorem zeJ(f:List Nat)(k:Nat):∀ x∈fMul f k,x<4294967296:=fun x hx=>by
 obtain⟨y,_,rfl⟩:=List.mem_map.1 hx
 exact Nat.mod_lt _ (by decide)
theorem zoi{f g:List Nat}(hf:f.length=35)(hg:g.length=35):(fAdd f g).length=35:=by simp[fAdd,hf,hg]
theorem zlc{f g:List Nat}(hf:f.length=35)(hg:g.length=35):(fSub f g).length=35:=by simp[fSub,hf,hg]
theorem zdz{f:List Nat}(k:Nat)(hf:f.length=35):(fMul f k).length=35:=by simp[fMul,hf]
theorem zlK{fv:List Int}{ft:List Nat}(h:∀ v∈fv,0≤v)(hl:ft.length=2^fv.length):((zcr fv ft).vars.take (zcr fv ft).n).map (fun(x:Nat)=>(x:Int))=fv∧(zcr fv ft).tab.take (2^(zcr fv ft).n)=ft:=by
 constructor
 ·show((fv.map Int.toNat++zae (4-fv.length)).take fv.length).map _=fv
  rw[List.take_left' (by simp),List.map_map]
  conv=>rhs; rw[←List.map_id fv]
  exact List.map_congr_left fun v hv=>by have:=h v hv; simp; omega
 ·show(ft++zae (16-ft.length)).take (2^fv.length)=ft
  rw[←hl]; exact List.take_left' rfl
theorem zoj{fv:List Int}{ft:List Nat}(h:Right fv ft):∀ v∈fv,0≤v:=fun v hv=>by
 obtain⟨j,hj,rfl⟩:=List.getElem_of_mem hv
 obtain⟨w,hw,hw0,_⟩:=h.2.2 j hj
 rw[List.getElem?_eq_getElem hj] at hw
 cases hw; exact hw0
theorem ztF{fv:List Int}{ft:List Nat}(h:Right fv ft)(hw:∀ c∈ft,c<4294967296)(n:Nat):(zcr fv ft).good n:=by
 have h4:=h.1
 have hl:ft.length≤16:=by rw[h.2.1]; exact Nat.pow_le_pow_right (n:=2) (by decide) h4
 obtain⟨e1,e2⟩:=zlK (zoj h) h.2.1
 refine⟨⟨rfl,by simp[zcr]; omega,by simp[zcr]; omega⟩,⟨zbA 35,fun _=>⟨?_,h4,?_⟩⟩,.inr (.inl rfl)⟩
 ·rw[e1,e2]; exact h
 ·intro w hw'
  simp only[zcr,List.mem_append] at hw'
  rcases hw' with h|h
  ·exact hw w h
  ·exact zbA _ w h
theorem zvG:∀ i,i<34→asB (zas (varL i))=some ([(i:Int)],[0,ones])∧asB (zas (fSub (ones::zae 34) (varL i)))=some ([(i:Int)],[ones,0]):=by
 decide +kernel
theorem zok(h:Inv L){fv:List Int}{ft:List Nat}(hR:Right fv ft)(hw:∀ c∈ft,c<4294967296):Ext L (zb4 L fv ft).2 1∧∃(i:Nat) (a:Nd),(zb4 L fv ft).1=i∧(zb4 L fv ft).2[i]?=some a∧asB a=some (fv,ft):=by
 have gen:zb4 L fv ft=putN L (zcr fv ft)→Ext L (zb4 L fv ft).2 1∧∃(i:Nat) (a:Nd),(zb4 L fv ft).1=i∧(zb4 L fv ft).2[i]?=some a∧asB a=some (fv,ft):=fun e=>by
  obtain⟨e1,e2⟩:=zlK (zoj hR) hR.2.1
  obtain⟨h1,i,h2,h3⟩:=zbN h (ztF hR hw _)
  rw[e]
  exact⟨h1,i,_,h2,h3,by rw[asB,if_pos (show(zcr fv ft).kind=1 from rfl),e1,e2]⟩
 match fv,hR,gen with
 | [],hR,gen =>
  obtain⟨c,rfl⟩:∃ c,ft=[c]:=by match ft,hR.2.1 with|[c],_=>exact⟨c,rfl⟩
  obtain⟨h1,i,h2,h3⟩:=zbN h (zbV (f:=c::zae 34) (by simp) (zcA (hw c (by simp))) _)
  exact⟨h1,i,_,h2,h3,by simp[asB,zas,Nd0,zaZ]⟩
 | [v],hR,gen =>
  obtain⟨w,hv,hv0,hv34,_⟩:=hR.2.2 0 (by simp)
  obtain rfl:v=w:=by simpa using hv
  obtain⟨n,rfl⟩:=Int.eq_ofNat_of_zero_le hv0
  obtain⟨a1,a2⟩:=zvG n (by omega)
  by_cases e1:ft=[0,ones]
  ·have e:zb4 L [(n:Int)] ft=putN L (zas (varL n)):=by rw[e1]; rfl
   obtain⟨h1,i,h2,h3⟩:=zbN h (zbV (ziK n) (zmq n) _)
   rw[e]
   exact⟨h1,i,_,h2,h3,by rw[a1,e1]⟩
  ·by_cases e2:ft=[ones,0]
   ·have e:zb4 L [(n:Int)] ft=putN L (zas (fSub (ones::zae 34) (varL n))):=by rw[e2]; rfl
    obtain⟨h1,i,h2,h3⟩:=zbN h (zbV (zlc (f:=ones::zae 34) rfl (ziK n)) (zmr _ _) _)
    rw[e]
    exact⟨h1,i,_,h2,h3,by rw[a2,e2]⟩
   ·exact gen (by simp only[zb4,e1,e2,if_false])
 | u::v::t,hR,gen=>exact gen rfl
end Go.Ev
