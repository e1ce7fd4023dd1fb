/- Filters without what is never come to: plain laws. -/
import Derived.Test.YtogjnjnabikdpaaGreatDoorDecCW
import Derived.Test.YtogjnjnabikdpaaGreatDoorEvWinCW
import Derived.Test.YtogjnjnabikdpaaGreatDoorLiveCW
import Derived.KernelRfl
import Derived.Test.YtogjnjnabikdpaaGreatDoorEvInsCW
import Derived.Test.YtogjnjnabikdpaaGreatDoorCheckBW
set_option linter.unusedSimpArgs false
set_option linter.unusedVariables false
set_option maxHeartbeats 8000000
set_option maxRecDepth 10000
namespace Go.Ev
open Go Go.RowKit
def cntB(m:List Bool)(n:Nat):Nat:=(m.take n).countP id
def prX(m:List Bool)(x:In4):In4:=if x.op=5 then{ x with k:=cntB m x.k } else if isBr x.op then{ x with jt:=(cntB m x.jt.toNat:Nat),jf:=(cntB m x.jf.toNat:Nat) } else x
def pruR:List In4→List Bool→List In4
 | x::f,true::m=>prX m x::pruR f m
 | _::f,false::m=>pruR f m
 | _,_=>[]
def clsB:List In4→List Bool→Prop
 | x::f,b::m=>(b=true→∀ o∈offs x,m[o]?=some true)∧clsB f m
 | [],[]=>True
 | _,_=>False
theorem zdz:∀{f:List In4} {m:List Bool},clsB f m→f.length=m.length
 | [],[],_=>rfl
 | [],_::_,h=>by cases h
 | _::_,[],h=>by cases h
 | x::f,b::m,h=>by simp[zdz h.2]
theorem znm:∀{f:List In4} {m:List Bool} (o:Nat),clsB f m→clsB (f.drop o) (m.drop o)
 | _,_,0,h=>by simpa using h
 | [],[],o+1,h=>by simp[clsB]
 | [],_::_,_+1,h=>by cases h
 | _::_,[],_+1,h=>by cases h
 | x::f,b::m,o+1,h=>by simpa using znm o h.2
theorem zjN(b:Bool)(m:List Bool)(n:Nat):cntB (b::m) (n+1)=(if b then 1 else 0)+cntB m n:=by
 cases b<;>simp[cntB,Nat.add_comm]
theorem zdA(m:List Bool):cntB m 0=0:=by simp[cntB]
theorem ziQ:∀(f:List In4) (m:List Bool) (o:Nat),f.length=m.length→(pruR f m).drop (cntB m o)=pruR (f.drop o) (m.drop o)
 | f,m,0,h=>by simp[zdA]
 | [],m,o+1,h=>by
  have:m=[]:=List.eq_nil_of_length_eq_zero (by simpa using h.symm)
  subst this
  simp[pruR]
 | x::f,[],o+1,h=>by simp at h
 | x::f,b::m,o+1,h=>by
  have ih:=ziQ f m o (by simpa using h)
  rw[zjN]
  cases b with
  | true =>
   rw[if_pos rfl,pruR,Nat.add_comm,List.drop_succ_cons,ih]; rfl
  | false =>
   simp only[Bool.false_eq_true,if_false,Nat.zero_add,pruR]
   rw[ih]; rfl
theorem zhe(m:List Bool)(x:In4):(prX m x).op=x.op:=by
 unfold prX
 split
 ·rfl
 ·split<;>rfl
theorem zuu(m:List Bool)(s:St)(x:In4)(d:Da):zaw s (prX m x) d=zaw s x d:=by
 by_cases h5:x.op=5
 ·have e1:aluT (5:Int)=(0,false,false):=by decide
  have e2:(prX m x).op=5:=by rw[zhe,h5]
  have o:∀ y:In4,y.op=5→zaw s y d=(s,true):=fun y hy=>by
   simp only[zaw,hy,e1,Bool.false_eq_true,if_false,zaX]
   simp
  rw[o _ e2,o _ h5]
 ·unfold prX
  rw[if_neg h5]
  split<;>rfl
theorem zuv(m:List Bool)(s:St)(x:In4):goes s (prX m x)=cntB m (goes s x):=by
 have ho:=zhe m x
 by_cases h5:x.op=5
 ·simp only[goes,ho,h5,if_true]
  simp[prX,h5]
 by_cases hb:isBr x.op=true
 ·have hp:prX m x={ x with jt:=(cntB m x.jt.toNat:Nat),jf:=(cntB m x.jf.toNat:Nat) }:=by rw[prX,if_neg h5,if_pos hb]
  have ht:takesB s (prX m x)=takesB s x:=by rw[hp]; rfl
  simp only[goes,ho,if_neg h5,hb,if_true,ht]
  rw[hp]
  cases takesB s x<;>simp
 ·simp[goes,ho,h5,hb,zdA]
theorem zqz(d:Da):∀(n:Nat) (f:List In4) (m:List Bool) (s:St),f.length≤n→clsB f m→m[0]?=some true→run d (pruR f m) s=run d f s
 | _,[],[],_,_,_,h=>by cases h
 | _,[],_::_,_,_,h,_=>by cases h
 | _,_::_,[],_,_,h,_=>by cases h
 | 0,_::_,_,_,h,_,_=>by simp at h
 | n+1,x::f,b::m,s,hn,hc,h0=>by
  simp only[List.getElem?_cons_zero,Option.some.injEq] at h0
  subst h0
  rw[pruR,zej,zej,zhe,zuu,zuv]
  by_cases h6:x.op=6
  ·have hk:(prX m x).k=x.k:=by
    have:isBr (6:Int)=false:=by decide
    simp[prX,h6,this]
   rw[if_pos h6,if_pos h6,hk]
  rw[if_neg h6,if_neg h6]
  by_cases h22:x.op=22
  ·rw[if_pos h22,if_pos h22]
  rw[if_neg h22,if_neg h22]
  by_cases hg:(zaw s x d).2=true
  case neg=>rw[if_neg hg,if_neg hg]
  rw[if_pos hg,if_pos hg]
  have he:zay x.op=false:=by simp[zay,h6,h22]
  have hm:=hc.1 rfl _ (zjH he s)
  have ih:=zqz d n (f.drop (goes s x)) (m.drop (goes s x)) (zaw s x d).1 (by simp at hn ⊢; omega) (znm _ hc.2) (by rw[List.getElem?_drop,Nat.add_zero]; exact hm)
  rw[ziQ f m _ (zdz hc.2),ih]
theorem zfI:∀(f:List In4) (m:List Bool),f.length=m.length→(pruR f m).length=m.countP id
 | [],[],_=>rfl
 | [],_::_,h=>by simp at h
 | _::_,[],h=>by simp at h
 | x::f,true::m,h=>by simp[pruR,zfI f m (by simpa using h)]
 | x::f,false::m,h=>by simp[pruR,zfI f m (by simpa using h)]
theorem zmC{m:List Bool}{o:Nat}(h:m[o]?=some true):cntB m o<m.countP id:=by
 have hl:=(List.getElem?_eq_some_iff.1 h).1
 have e:m=m.take o++true::m.drop (o+1):=by
  have:=List.drop_eq_getElem_cons hl
  rw[(List.getElem?_eq_some_iff.1 h).2] at this
  rw[←this,List.take_append_drop]
 rw[cntB]
 conv=>rhs; rw[e,List.countP_append,List.countP_cons]
 simp
theorem zgL(m:List Bool)(o:Nat):cntB m o≤o:=by
 have:=List.countP_le_length (p:=id) (l:=m.take o)
 rw[cntB]
 have h2:=List.length_take_le o m
 omega
theorem zs0{x:In4}(m:List Bool)(h:zaV x=true)(hr:zbc x=true):zaV (prX m x)=true∧zbc (prX m x)=true:=by
 have hbo:=zb3 h
 have hcl:∀ n,cntB m n≤n:=zgL m
 obtain⟨op,jt,jf,k⟩:=x
 by_cases h5:op=5
 ·subst h5
  have hb:isBr 5=false:=by decide
  simp only[prX,if_true]
  constructor
  ·simp only[zaV] at h ⊢
   have hs:za5 5=some (5,[106,97],true,false):=by decide
   simp only[hs] at h ⊢
   simpa using h
  ·simp[zbc]
 ·cases hb:isBr op
  ·simp[prX,h5,hb,h,hr]
  ·obtain⟨b1,b2,b3,b4⟩:=hbo hb
   simp only at b1 b2 b3 b4
   have e:prX m ⟨op,jt,jf,k⟩=⟨op,(cntB m jt.toNat:Nat),(cntB m jf.toNat:Nat),k⟩:=by simp[prX,h5,hb]
   rw[e]
   constructor
   ·simp only[zaV] at h ⊢
    cases hs:za5 op with
    | none=>rw[hs] at h; cases h
    | some r =>
     rw[hs] at h
     simp only[Bool.and_eq_true] at h ⊢
     refine⟨h.1,?_⟩
     have h2:=h.2
     have c1:=hcl jt.toNat
     have c2:=hcl jf.toNat
     split at h2
     ·rename_i hh
      rw[if_pos hh,decide_eq_true_eq]
      omega
     ·rename_i hh
      rw[decide_eq_true_eq] at h2
      rw[if_neg hh,decide_eq_true_eq]
      omega
   ·simpa[zbc] using hr
theorem zjO:∀{f:List In4} {m:List Bool},clsB f m→zaL f=true→zaL (pruR f m)=true
 | [],[],_,_=>rfl
 | [],_::_,h,_=>by cases h
 | _::_,[],h,_=>by cases h
 | x::f,false::m,h,ho=>by
  rw[zaL,Bool.and_eq_true] at ho
  rw[pruR]
  exact zjO h.2 ho.2
 | x::f,true::m,h,ho=>by
  rw[zaL,Bool.and_eq_true] at ho
  rw[pruR,zaL,Bool.and_eq_true]
  refine⟨?_,zjO h.2 ho.2⟩
  have h1:=ho.1
  simp only[oneB,Bool.and_eq_true] at h1
  obtain⟨⟨⟨r1,r2⟩,r3⟩,r4⟩:=h1
  obtain⟨p1,p2⟩:=zs0 m r1 r2
  have hcl:=h.1 rfl
  rw[oneB,p1,p2,zfI f m (zdz h.2),zhe]
  simp only[Bool.true_and,Bool.and_eq_true]
  constructor
  ·by_cases h5:x.op=5
   ·have:=hcl x.k (by have:zay (5:Int)=false:=(by decide); simp[offs,h5,this])
    rw[if_pos h5,decide_eq_true_eq]
    simp only[prX,if_pos h5]
    exact zmC this
   ·rw[if_neg h5]
  ·by_cases hb:isBr x.op=true
   ·have h5:x.op≠5:=fun e=>by rw[e] at hb; revert hb; decide
    have he:zay x.op=false:=by
     rcases br_two hb with e|e|e|e|e|e|e|e<;>rw[e]<;>decide
    have t1:=hcl x.jt.toNat (by simp[offs,he,h5,hb])
    have t2:=hcl x.jf.toNat (by simp[offs,he,h5,hb])
    have c1:=zmC t1
    have c2:=zmC t2
    rw[if_pos hb,decide_eq_true_eq]
    simp only[prX,if_neg h5,if_pos hb]
    omega
   ·rw[if_neg hb]
theorem zo7:∀{f:List In4} {m:List Bool},f.length=m.length→m.any id=false→pruR f m=[]
 | [],[],_,_=>rfl
 | [],_::_,h,_=>by simp at h
 | _::_,[],h,_=>by simp at h
 | x::f,true::m,_,h=>by simp at h
 | x::f,false::m,h,h2=>by
  rw[pruR]
  exact zo7 (by simpa using h) (by simpa using h2)
theorem zo8:∀{f:List In4} {m:List Bool},f.length=m.length→m.any id=true→pruR f m≠[]
 | [],[],_,h=>by simp at h
 | [],_::_,h,_=>by simp at h
 | _::_,[],h,_=>by simp at h
 | x::f,true::m,_,_=>by simp[pruR]
 | x::f,false::m,h,h2=>by
  rw[pruR]
  exact zo8 (by simpa using h) (by simpa using h2)
theorem zs1{x:In4}{f:List In4}(h:f≠[]):endB (x::f)=endB f:=by
 cases f with
 | nil=>exact absurd rfl h
 | cons y f=>simp[endB,List.getLast?_cons_cons]
theorem zwc{x:In4}(h:zay x.op=false):offs x≠[]:=by
 unfold offs
 rw[h]
 simp only[Bool.false_eq_true,if_false]
 split
 ·simp
 ·split<;>simp
theorem zqA:∀{f:List In4} {m:List Bool},clsB f m→m.any id=true→endB (pruR f m)=true
 | [],[],_,h=>by simp at h
 | [],_::_,h,_=>by cases h
 | _::_,[],h,_=>by cases h
 | x::f,b::m,h,h2=>by
  have hl:=zdz h.2
  cases ha:m.any id with
  | true =>
   have ih:=zqA h.2 ha
   cases b with
   | true=>rw[pruR,zs1 (zo8 hl ha),ih]
   | false=>rw[pruR,ih]
  | false =>
   have hb:b=true:=by
    rw[List.any_cons,ha] at h2
    simpa using h2
   subst hb
   rw[pruR,zo7 hl ha]
   simp only[endB,List.getLast?_singleton,zhe]
   cases he:zay x.op with
   | true=>rfl
   | false =>
    exfalso
    cases ho:offs x with
    | nil=>exact zwc he ho
    | cons o l =>
     have:=h.1 rfl o (by rw[ho]; simp)
     have hm:=List.mem_of_getElem? this
     have:m.any id=true:=List.any_eq_true.2 ⟨true,hm,rfl⟩
     rw[ha] at this; cases this
theorem zs2{f:List In4}{m:List Bool}(hs:zap f=true)(hc:clsB f m)(h0:m[0]?=some true):zap (pruR f m)=true:=by
 have hl:=zdz hc
 have h1:=zfI f m hl
 have h2:=List.countP_le_length (p:=id) (l:=m)
 have ha:m.any id=true:=List.any_eq_true.2 ⟨true,List.mem_of_getElem? h0,rfl⟩
 simp only[zap,Bool.and_eq_true,decide_eq_true_eq] at hs ⊢
 exact⟨⟨by omega,zjO hc hs.1.2⟩,zqA hc ha⟩
theorem zqB:∀{f:List In4} {m:List Bool},f.length=m.length→(∀ b∈m,b=true)→zaL f=true→pruR f m=f
 | [],[],_,_,_=>rfl
 | [],_::_,h,_,_=>by simp at h
 | _::_,[],h,_,_=>by simp at h
 | x::f,b::m,h,hm,ho=>by
  have hb:b=true:=hm b (by simp)
  subst hb
  rw[zaL,Bool.and_eq_true] at ho
  have hl:f.length=m.length:=by simpa using h
  have hcn:∀ n,n≤m.length→cntB m n=n:=fun n hn=>by
   have:(m.take n).countP id=(m.take n).length:=List.countP_eq_length.2 fun b hb=>hm b (by simp[List.mem_of_mem_take hb])
   rw[cntB,this,List.length_take]; omega
  rw[pruR,zqB hl (fun b hb=>hm b (by simp[hb])) ho.2]
  have h1:=ho.1
  simp only[oneB,Bool.and_eq_true] at h1
  obtain⟨⟨⟨r1,r2⟩,r3⟩,r4⟩:=h1
  have hbo:=zb3 r1
  congr 1
  obtain⟨op,jt,jf,k⟩:=x
  by_cases h5:op=5
  ·simp only[h5,if_true,decide_eq_true_eq] at r3
   simp only[prX,h5,if_true]
   rw[hcn k (by omega)]
  ·cases hbr:isBr op
   ·simp[prX,h5,hbr]
   ·obtain⟨b1,b2,b3,b4⟩:=hbo hbr
    simp only[hbr,if_true,decide_eq_true_eq] at r4
    simp only at b1 b2 b3 b4
    simp only[prX,h5,hbr,if_true,if_false]
    rw[hcn _ (by omega),hcn _ (by omega)]
    simp; omega
end Go.Ev
/- The numbers of which letters are made. -/
namespace Go.Ev
open Go Go.RowKit
variable {G:Tbl}
def ownB(x:In4):Bool:=((aluT x.op).2.2&&!(aluT x.op).2.1)||decide (x.op=0)||decide (x.op=1)
def ownN(w:List In4):List Nat:=(w.filter ownB).map In4.k
theorem zs3(w:List In4)(x:In4):ownN (w++[x])=if ownB x then ownN w++[x.k] else ownN w:=by
 unfold ownN
 rw[List.filter_append,List.map_append]
 by_cases h:ownB x=true<;>simp[h,List.filter_cons]
theorem ziR(w:List In4):(ownN w).length≤w.length:=by simp[ownN,List.length_filter_le]
noncomputable def zdI(w:List In4):List Nat :=
 (constI (winV [] w).L ((winV [] w).p.getD 0 0)).toList++((valI (zae 34) (winV [] w).L ((winV [] w).p.getD 0 0)).toList++(valI (4294967295::zae 33) (winV [] w).L ((winV [] w).p.getD 0 0)).toList)
theorem zwd[HasSymNew G](H:Heap):Big G (.F 256 [] H (.ptr (H.length+1) 0) (H++[some (.map []),some (.cells [.vs [] .full,.mp H.length])])):=by
 refine F_of HasSymNew.h_sym_New (Nat.le_of_ble_eq_true rfl) ?_
 simp[ap0,apk,set0,setk]
def BH(a:Option Blk)(L:List Nd):Heap:=[a,some (.map (ents L)),some (zdE L 3 1),some (.zone L.length)]
theorem zvi{a:Option Blk}{L:List Nd}(ha:∀ n,a.map (Blk.cl n)=a)(hok:∀ x∈L,x.ok)(hs:L.length≤1000000):Bk (BH a L) 2 3 1 L:=by
 refine⟨rfl,rfl,rfl,fun n hn=>?_,hok,hs⟩
 simp only[BH,List.length_cons,List.length_nil] at hn
 simp[BH,zdE,Blk.cl,ha,clL,V.cl,Tk.cl,ents,zmv,show 3<n by omega,show 1<n by omega]
theorem zrw[HasWd G][HasNeg G][HasIns G][HasCheck G][HasWRight G][HasAffine G][hB:HasBitsE G][HasSymNew G][HasSym G][HasSymEval G][HasWinOf G][HasSrcN G](w:List In4)(hf:w.length≤maxLen)(hk:∀ x∈w,x.k<4294967296)(hw:winB w=true) :
  FP G 326 [FL w] (.vs (nats .u32 (ownN w++zdI w)) .no):=by
 haveI:HasBits G:=hB.toHasBits
 refine zak HasSrcN.h_search_numbers (Nat.le_of_ble_eq_true rfl) ?_
 obtain⟨L,hL⟩:∃ L,L=(winV [] w).L:=⟨_,rfl⟩
 have hv:=zcH Inv.nil w hk
 have hi:Inv L:=by rw[hL]; exact hv.ext.inv
 have hw32:w.length≤32:=by simp only[winB,Bool.and_eq_true,decide_eq_true_eq] at hw; exact hw.1
 have hLl:L.length≤114:=by rw[hL]; have:=hv.ext.len; simp at this; omega
 obtain⟨X,hX⟩:∃ X,X=ofC [] w:=⟨_,rfl⟩
 have lX:X.length=19:=by rw[hX]; exact zme Inv.nil hk
 have cX:∀ n,clL n X=X:=fun n=>by rw[hX]; exact zoj w n
 have nX:X.map V.nf1=X:=by rw[hX,ofC,if_pos hw,vcs]; simp[za8,Function.comp_def,V.nf1]
 obtain⟨p0,hp0⟩:∃ p0,p0=(winV [] w).p.getD 0 0:=⟨_,rfl⟩
 have X1:X.take 1=[.int .i64 p0]:=by
  rw[hX,ofC,if_pos hw,zn8 hv.len,hp0,List.getD,List.getElem?_eq_getElem (show 0<(winV [] w).p.length by rw[hv.len]; decide)]; rfl
 have hB0:∀ k,Bk (BH (some (.zone k)) []) 2 3 1 []:=fun k=>zvi (fun n=>rfl) (by simp) (by simp)
 have hB1:∀ k,Bk (BH (some (.zone k)) L) 2 3 1 L:=fun k=>zvi (fun n=>rfl) hi.ok (by omega)
 have hB1x:∀ k,Bk (BH (some (.zone k)) L++[some (.cells X)]) 2 3 1 L:=fun k=>(hB1 k).app fun n=>by simp[Blk.cl,cX]
 have hof:=fun k=>zoi (G:=G) w ((hB0 k).app (r:=[none]) fun n=>by simp) Inv.nil (by decide) hf hk
 have e1:∀ k,upd (BH (some (.zone k)) []) 2 3 1 (ofL [] w)=BH (some (.zone k)) L:=fun k=>by rw[hL,ofL,if_pos hw]; rfl
 have hof:∀ k,SF G 296 [.ptr 2 0,.vs (IL w) .no] (BH (some (.zone k)) []++[none]) (.tup [.agg X,.bool true]) (BH (some (.zone k)) L++[none]):=fun k=>by
  have:=hof k
  rw[(hB0 k).upd_app,←hX,e1,hw] at this
  exact this
 have hc:=fun k=>zi6 (G:=G) p0 (hB1x k)
 have he0:=fun(k:Nat) (r:Heap) (hr:∀ n,r.map (Option.map (Blk.cl n))=r)=>ztf (G:=G) p0 (zae 34) ((hB1 k).app hr) hi (by simp) (zby 34)
 have he1:=fun(k:Nat) (r:Heap) (hr:∀ n,r.map (Option.map (Blk.cl n))=r)=>ztf (G:=G) p0 (4294967295::zae 33) ((hB1 k).app hr) hi (by simp) (fun c hc=>by rcases List.mem_cons.1 hc with rfl|h; decide; exact zby 33 c h)
 have hT:zdI w=(constI L p0).toList++((valI (zae 34) L p0).toList++(valI (4294967295::zae 33) L p0).toList):=by rw[hL,hp0]; rfl
 rw[hT]
 generalize constI L p0=o1 at hc ⊢
 generalize valI (zae 34) L p0=o2 at he0 ⊢
 generalize valI (4294967295::zae 33) L p0=o3 at he1 ⊢
 obtain⟨T,hT⟩:∃ T:Nat→List Nat,∀ j,T j=ownN (w.take j):=⟨_,fun _=>rfl⟩
 have T0:T 0=[]:=by rw[hT]; rfl
 have TN:T w.length=ownN w:=by rw[hT,List.take_length]
 have Tl:∀ i,(T i).length≤i:=fun i=>by rw[hT]; exact Nat.le_trans (ziR _) (by rw[List.length_take]; omega)
 simp[FL]
 refine W_up w.length (fun i=>[(0,FL w),(3,.vs (nats .u32 (T i)) (.own 0)),(18,FL w),(19,.int .i64 w.length),(20,.int .i64 i)]) (fun i=>[some (.zone (T i).length)]) (fun _=>True) ?_ ?_
 ·simp[zaa,zad,FL,T0]
 intro i hi' _
 by_cases hlt:i<w.length
 ·obtain⟨x,hx⟩:∃ x,x=w[i]:=⟨_,rfl⟩
  have hg:w[i]?=some x:=by rw[List.getElem?_eq_getElem hlt,hx]
  have hgg:=zbg hlt
  rw[←hx] at hgg
  have hal:=zid (G:=G) x
  have hcs:x.cs=[.int .i64 x.op,.int .i64 x.jt,.int .i64 x.jf,.int .u32 (x.k:Int)]:=rfl
  have hl:=Tl i
  have hs:T (i+1)=if ownB x then T i++[x.k] else T i:=by rw[hT,hT,List.take_add_one,hg]; exact zs3 _ _
  simp only[IV,hcs] at hal
  have hsn:nats .u32 (T i)++[[V.int .u32 (x.k:Int)]]=nats .u32 (T i++[x.k]):=zet .u32 (T i) x.k
  simp(disch:=omega)[ltT,FL,hgg,hcs,hlt]
  refine zab hal ?_
  cases ha:(aluT x.op).2.2 with
  | true =>
   cases hb:(aluT x.op).2.1 with
   | false =>
    have hy:ownB x=true:=by simp[ownB,ha,hb]
    rw[if_pos hy] at hs
    have hsl:(T (i+1)).length=(T i).length+1:=by rw[hs]; simp
    rw[←hs] at hsn
    simp(disch:=omega)[ltT,leTn,FL,hgg,hcs,hlt,hsn,hsl,zag,zaa,zad,-Int.natCast_add]
   | true =>
    by_cases o0:x.op=0
    ·have hy:ownB x=true:=by simp[ownB,o0]
     rw[if_pos hy] at hs
     have hsl:(T (i+1)).length=(T i).length+1:=by rw[hs]; simp
     rw[←hs] at hsn
     simp(disch:=omega)[ltT,leTn,FL,hgg,hcs,hlt,o0,hsn,hsl,zag,zaa,zad,-Int.natCast_add]
    by_cases o1:x.op=1
    ·have hy:ownB x=true:=by simp[ownB,o1]
     rw[if_pos hy] at hs
     have hsl:(T (i+1)).length=(T i).length+1:=by rw[hs]; simp
     rw[←hs] at hsn
     simp(disch:=omega)[ltT,leTn,FL,hgg,hcs,hlt,o1,hsn,hsl,zag,zaa,zad,-Int.natCast_add]
    have hy:ownB x=false:=by simp[ownB,hb,o0,o1]
    rw[hy] at hs
    simp only[Bool.false_eq_true,if_false] at hs
    simp(disch:=omega)[ltT,leTn,FL,hgg,hcs,hlt,o0,o1,beqF o0,beqF o1,hs,zag,zaa,zad,-Int.natCast_add]
  | false =>
    by_cases o0:x.op=0
    ·have hy:ownB x=true:=by simp[ownB,o0]
     rw[if_pos hy] at hs
     have hsl:(T (i+1)).length=(T i).length+1:=by rw[hs]; simp
     rw[←hs] at hsn
     simp(disch:=omega)[ltT,leTn,FL,hgg,hcs,hlt,o0,hsn,hsl,zag,zaa,zad,-Int.natCast_add]
    by_cases o1:x.op=1
    ·have hy:ownB x=true:=by simp[ownB,o1]
     rw[if_pos hy] at hs
     have hsl:(T (i+1)).length=(T i).length+1:=by rw[hs]; simp
     rw[←hs] at hsn
     simp(disch:=omega)[ltT,leTn,FL,hgg,hcs,hlt,o1,hsn,hsl,zag,zaa,zad,-Int.natCast_add]
    have hy:ownB x=false:=by simp[ownB,ha,o0,o1]
    rw[hy] at hs
    simp only[Bool.false_eq_true,if_false] at hs
    simp(disch:=omega)[ltT,leTn,FL,hgg,hcs,hlt,o0,o1,beqF o0,beqF o1,hs,zag,zaa,zad,-Int.natCast_add]
 ·have hne:i=w.length:=by omega
  subst hne
  have hol:=ziR w
  obtain⟨O,hO⟩:∃ O,O=ownN w:=⟨_,rfl⟩
  simp only[TN,←hO]
  rw[←hO] at hol
  simp[FL]
  refine zha (zwd _) (by simp) ?_
  simp
  rw[show([some (.zone O.length),some (.map []),some (.cells [.vs [] (.own 3),.mp 1]),some (.zone 0),none]:Heap)=BH (some (.zone O.length)) []++[none] from rfl]
  refine zah (hof _) ?_
  have nB:∀ k,(BH (some (.zone k)) L).length=4:=fun k=>rfl
  have kk:∀(k:Nat) (r:Heap),(BH (some (.zone k)) L++r)[4]?=r[0]?:=fun k r=>apn0 (nB k)
  have k0:∀(k:Nat) (r:Heap) x,(BH (some (.zone k)) L++r).set 4 x=BH (some (.zone k)) L++r.set 0 x:=fun k r x=>zbT (nB k) x
  have kz:∀(k:Nat) (r:Heap),(BH (some (.zone k)) L++r)[0]?=some (some (.zone k)):=fun k r=>rfl
  have sz:∀(k n:Nat) (r:Heap),(BH (some (.zone k)) L++r).set 0 (some (.zone n))=BH (some (.zone n)) L++r:=fun k n r=>rfl
  obtain⟨Z,hZ⟩:∃ Z:List V,Z=vcs (List.replicate 18 0) [] .full:=⟨_,rfl⟩
  have lZ:Z.length=19:=by rw[hZ]; rfl
  have hZz:[V.int .i64 0,.int .i64 0,.int .i64 0,.int .i64 0,.int .i64 0,.int .i64 0,.int .i64 0,.int .i64 0,.int .i64 0,.int .i64 0,.int .i64 0,.int .i64 0,.int .i64 0,.int .i64 0,.int .i64 0,.int .i64 0,.int .i64 0,.int .i64 0,.vs [] .full]=Z:=by rw[hZ]; rfl
  have tX:X.take 19=X:=List.take_of_length_le (by omega)
  have dZ:Z.drop 19=[]:=List.drop_eq_nil_of_le (by omega)
  simp[hZz,lZ,kk,k0,lX,tX,dZ,nX,cX]
  simp[hZz,lZ,kk,k0,lX,tX,dZ,nX,cX,X1]
  refine zah (hc _) ?_
  rcases o1 with _|a
  ·obtain⟨O1,hO1⟩:∃ O1,O1=O++[]:=⟨_,rfl⟩
   have lO1:O1.length≤40:=by rw[hO1]; simp; omega
   obtain⟨F,hF⟩:∃ F:Nat→List Nat,∀ i,F i=O1++(if i=0 then [] else if i=1 then o2.toList else o2.toList++o3.toList):=⟨_,fun _=>rfl⟩
   have F0:F 0=O1:=by rw[hF]; simp
   have F1:F 1=O1++o2.toList:=by rw[hF]; simp
   have F2:F 2=F 1++o3.toList:=by rw[hF,F1]; simp
   have lF:∀ i,(F i).length≤42:=fun i=>by
    rw[hF]
    split
    ·simp; omega
    ·split
     ·cases o2<;>simp<;>omega
     ·cases o2<;>cases o3<;>simp<;>omega
   simp(disch:=omega)[nB,kk,k0,kz,sz,lX,X1,leTn,leFn]
   have hO0:O=O1:=by rw[hO1]; simp
   refine W_up 2 (fun i=>[(3,.vs (nats .u32 (F i)) (.own 0)),(9,.ptr 2 0),(10,.ptr 4 0),(71,.agg [.int .u32 0,.int .u32 4294967295]),(72,.int .i64 i)]) (fun i=>BH (some (.zone (F i).length)) L++[some (.cells X)]) (fun _=>True) ?_ ?_
   ·have:=((hB1 O1.length).app (r:=[some (.cells X)]) fun n=>by simp[Blk.cl,cX]).shut.self
    simp[nB] at this
    simp[zaa,nB,F0,this,hO0]
   intro i hi2 _
   have lFi:=lF i
   have a01:addI .i64 0 1=1:=by decide
   have a11:addI .i64 1 1=2:=by decide
   have ht:∀ k:Nat,zad 5 (BH (some (.zone k)) L++[some (.cells X)])=BH (some (.zone k)) L++[some (.cells X)]:=fun k=>by
    have:=((hB1 k).app (r:=[some (.cells X)]) fun n=>by simp[Blk.cl,cX]).shut.self
    simpa[nB] using this
   have hb:∀(k:Nat),zad 5 (BH (some (.zone k)) L++[some (.cells X),none])=BH (some (.zone k)) L++[some (.cells X)]:=fun k=>by
    have:=((hB1 k).app (r:=[some (.cells X)]) fun n=>by simp[Blk.cl,cX]).shut.back [none]
    simpa[nB] using this
   by_cases h0:i=0
   ·subst h0
    simp[nB,kk,k0,kz,sz,lX,X1]
    refine zah (he0 _ _ fun n=>by simp[Blk.cl,cX]) ?_
    cases o2 with
    | none =>
     have F1':F 1=F 0:=by rw[F1,F0]; simp
     simp[nB,kk,k0,kz,sz,lX,X1,zaa,ht,hb,a01,a11,F1']
    | some y =>
     have F1':F 1=F 0++[y]:=by rw[F1,F0]; simp
     have l1:(F 1).length=(F 0).length+1:=by rw[F1']; simp
     have hsn:nats .u32 (F 0)++[[V.int .u32 (y:Int)]]=nats .u32 (F 1):=by rw[F1']; exact zet .u32 (F 0) y
     simp(disch:=omega)[nB,kk,k0,kz,sz,lX,X1,leTn,leFn,zaa,ht,hb,a01,a11,hsn,l1]
   by_cases h1:i=1
   ·subst h1
    simp[nB,kk,k0,kz,sz,lX,X1]
    refine zah (he1 _ _ fun n=>by simp[Blk.cl,cX]) ?_
    cases o3 with
    | none =>
     have F2':F 2=F 1:=by rw[F2]; simp
     simp[nB,kk,k0,kz,sz,lX,X1,zaa,ht,hb,a01,a11,F2']
    | some y =>
     have F2':F 2=F 1++[y]:=by rw[F2]; simp
     have l2:(F 2).length=(F 1).length+1:=by rw[F2']; simp
     have hsn:nats .u32 (F 1)++[[V.int .u32 (y:Int)]]=nats .u32 (F 2):=by rw[F2']; exact zet .u32 (F 1) y
     simp(disch:=omega)[nB,kk,k0,kz,sz,lX,X1,leTn,leFn,zaa,ht,hb,a01,a11,hsn,l2]
   obtain rfl:i=2:=by omega
   have hfin:F 2=O++((none:Option Nat).toList++(o2.toList++o3.toList)):=by rw[F2,F1,hO1]; simp
   simp[hfin]
  ·obtain⟨O1,hO1⟩:∃ O1,O1=O++[a]:=⟨_,rfl⟩
   have lO1:O1.length≤40:=by rw[hO1]; simp; omega
   obtain⟨F,hF⟩:∃ F:Nat→List Nat,∀ i,F i=O1++(if i=0 then [] else if i=1 then o2.toList else o2.toList++o3.toList):=⟨_,fun _=>rfl⟩
   have F0:F 0=O1:=by rw[hF]; simp
   have F1:F 1=O1++o2.toList:=by rw[hF]; simp
   have F2:F 2=F 1++o3.toList:=by rw[hF,F1]; simp
   have lF:∀ i,(F i).length≤42:=fun i=>by
    rw[hF]
    split
    ·simp; omega
    ·split
     ·cases o2<;>simp<;>omega
     ·cases o2<;>cases o3<;>simp<;>omega
   simp(disch:=omega)[nB,kk,k0,kz,sz,lX,X1,leTn,leFn]
   have hsn0:nats .u32 O++[[V.int .u32 (a:Int)]]=nats .u32 O1:=by rw[hO1]; exact zet .u32 O a
   have l01:O.length+1=O1.length:=by rw[hO1]; simp
   refine W_up 2 (fun i=>[(3,.vs (nats .u32 (F i)) (.own 0)),(9,.ptr 2 0),(10,.ptr 4 0),(71,.agg [.int .u32 0,.int .u32 4294967295]),(72,.int .i64 i)]) (fun i=>BH (some (.zone (F i).length)) L++[some (.cells X),none]) (fun _=>True) ?_ ?_
   ·have:=((hB1 O1.length).app (r:=[some (.cells X),none]) fun n=>by simp[Blk.cl,cX]).shut.self
    simp[nB] at this
    simp[zaa,nB,F0,this,hO1.symm,l01]
   intro i hi2 _
   have lFi:=lF i
   have a01:addI .i64 0 1=1:=by decide
   have a11:addI .i64 1 1=2:=by decide
   have ht:∀ k:Nat,zad 6 (BH (some (.zone k)) L++[some (.cells X),none])=BH (some (.zone k)) L++[some (.cells X),none]:=fun k=>by
    have:=((hB1 k).app (r:=[some (.cells X),none]) fun n=>by simp[Blk.cl,cX]).shut.self
    simpa[nB] using this
   have hb:∀(k:Nat),zad 6 (BH (some (.zone k)) L++[some (.cells X),none,none])=BH (some (.zone k)) L++[some (.cells X),none]:=fun k=>by
    have:=((hB1 k).app (r:=[some (.cells X),none]) fun n=>by simp[Blk.cl,cX]).shut.back [none]
    simpa[nB] using this
   by_cases h0:i=0
   ·subst h0
    simp[nB,kk,k0,kz,sz,lX,X1]
    refine zah (he0 _ _ fun n=>by simp[Blk.cl,cX]) ?_
    cases o2 with
    | none =>
     have F1':F 1=F 0:=by rw[F1,F0]; simp
     simp[nB,kk,k0,kz,sz,lX,X1,zaa,ht,hb,a01,a11,F1']
    | some y =>
     have F1':F 1=F 0++[y]:=by rw[F1,F0]; simp
     have l1:(F 1).length=(F 0).length+1:=by rw[F1']; simp
     have hsn:nats .u32 (F 0)++[[V.int .u32 (y:Int)]]=nats .u32 (F 1):=by rw[F1']; exact zet .u32 (F 0) y
     simp(disch:=omega)[nB,kk,k0,kz,sz,lX,X1,leTn,leFn,zaa,ht,hb,a01,a11,hsn,l1]
   by_cases h1:i=1
   ·subst h1
    simp[nB,kk,k0,kz,sz,lX,X1]
    refine zah (he1 _ _ fun n=>by simp[Blk.cl,cX]) ?_
    cases o3 with
    | none =>
     have F2':F 2=F 1:=by rw[F2]; simp
     simp[nB,kk,k0,kz,sz,lX,X1,zaa,ht,hb,a01,a11,F2']
    | some y =>
     have F2':F 2=F 1++[y]:=by rw[F2]; simp
     have l2:(F 2).length=(F 1).length+1:=by rw[F2']; simp
     have hsn:nats .u32 (F 1)++[[V.int .u32 (y:Int)]]=nats .u32 (F 2):=by rw[F2']; exact zet .u32 (F 1) y
     simp(disch:=omega)[nB,kk,k0,kz,sz,lX,X1,leTn,leFn,zaa,ht,hb,a01,a11,hsn,l2]
   obtain rfl:i=2:=by omega
   have hfin:F 2=O++((some a).toList++(o2.toList++o3.toList)):=by rw[F2,F1,hO1]; simp
   simp[hfin]
end Go.Ev
/- Letters: one is put. -/
namespace Go.Ev
open Go Go.RowKit
variable {G:Tbl}
def ltr(l:List In4)(x:In4):List In4:=if x∈l then l else if winB [x]=true then l++[x] else l
theorem zkm(l:List In4)(x:In4):(ltr l x).length≤l.length+1:=by unfold ltr; split; omega; split<;>simp
def mls(l:List In4):List (V×V):=l.map fun x=>(IV x,.bool true)
theorem zs4{x:In4}:∀{l:List In4} (i:Nat),x∈l→zbv (.row [.int,.int,.int,.int]) (.agg x.cs) (mls l) i=some (some (i+l.idxOf x,.bool true))
 | [],i,h=>by cases h
 | y::l,i,h=>by
  simp only[mls,List.map_cons,zbv,zbd,IV,aeq4]
  by_cases e:x=y
  ·subst e; simp
  ·have hm:x∈l:=by simpa[e] using h
   have ih:=zs4 (i+1) hm
   have hix:(y::l).idxOf x=l.idxOf x+1:=by rw[List.idxOf_cons,beq_false_of_ne (Ne.symm e)]; rfl
   simp only[mls,IV] at ih
   simp only[e,decide_false,ih,hix,show i+1+l.idxOf x=i+(l.idxOf x+1) from by omega]
theorem zmD{x:In4}:∀{l:List In4} (i:Nat),x∉l→zbv (.row [.int,.int,.int,.int]) (.agg x.cs) (mls l) i=some none
 | [],i,_=>rfl
 | y::l,i,h=>by
  simp only[List.mem_cons,not_or] at h
  have ih:=zmD (i+1) h.2
  simp only[mls,IV] at ih
  simp only[mls,List.map_cons,zbv,zbd,IV,aeq4,h.1,decide_false,ih]
def BL3(a b:List In4)(n:Nat):Heap:=[some (.cells [.vs (IL a) (.own 3)]),some (.map (mls b)),some (.cells [.mp 1]),some (.zone n)]
def BL(l:List In4):Heap:=BL3 l l l.length
theorem zmE(a b:List In4)(n:Nat):zba (BL3 a b n):=by
 intro m hm
 simp only[BL3,List.length_cons,List.length_nil] at hm
 have hmap:(mls b).map (fun p=>(p.1.cl m,p.2.cl m))=mls b:=by
  simp[mls,IV,In4.cs,V.cl,clL,Function.comp_def]
 simp[BL3,Blk.cl,clL,V.cl,Tk.cl,show 3<m by omega,show 1<m by omega,hmap]
theorem zkn[HasIns G][HasCheck G][HasWRight G][HasSrcL G](l:List In4)(x:In4)(r:Heap)(hr:∀ n,r.map (Option.map (Blk.cl n))=r)(hl:l.length≤1000000)(hk:x.k<4294967296) :
  SF G 327 [IV x,.ptr 2 0,.ptr 0 0] (BL l++r) (.tup []) (BL (ltr l x)++r):=by
 refine zbx HasSrcL.h_search_Letters_1 (Nat.le_of_ble_eq_true rfl) ?_
 have nB:∀ a b n,(BL3 a b n).length=4:=fun a b n=>rfl
 have hxl:x.cs.length=4:=rfl
 have hxt:x.cs.take 4=x.cs:=rfl
 have kx:∀ n,clL n x.cs=x.cs:=fun n=>by simp[In4.cs,clL,V.cl]
 have nx:x.cs.map V.nf1=x.cs:=rfl
 have g0:∀ a b n (s:Heap),(BL3 a b n++s)[0]?=some (some (.cells [.vs (IL a) (.own 3)])):=fun a b n s=>rfl
 have g1:∀ a b n (s:Heap),(BL3 a b n++s)[1]?=some (some (.map (mls b))):=fun a b n s=>rfl
 have g2:∀ a b n (s:Heap),(BL3 a b n++s)[2]?=some (some (.cells [.mp 1])):=fun a b n s=>rfl
 have g3:∀ a b n (s:Heap),(BL3 a b n++s)[3]?=some (some (.zone n)):=fun a b n s=>rfl
 have s0:∀ a a' b n (s:Heap),(BL3 a b n++s).set 0 (some (.cells [.vs (IL a') (.own 3)]))=BL3 a' b n++s:=fun a a' b n s=>rfl
 have s1:∀ a b b' n (s:Heap),(BL3 a b n++s).set 1 (some (.map (mls b')))=BL3 a b' n++s:=fun a b b' n s=>rfl
 have s3:∀ a b n n' (s:Heap),(BL3 a b n++s).set 3 (some (.zone n'))=BL3 a b n'++s:=fun a b n n' s=>rfl
 have kk:∀ a b n (s:Heap),(BL3 a b n++(r++s))[4+r.length]?=s[0]?:=fun a b n s=>by
  rw[←List.append_assoc]; exact apn0 (by simp[nB])
 have k0:∀ a b n (s:Heap) y,(BL3 a b n++(r++s)).set (4+r.length) y=BL3 a b n++(r++s.set 0 y):=fun a b n s y=>by
  rw[←List.append_assoc,zbT (by simp[nB]),List.append_assoc]
 have hpu:(∀ y∈x.cs,y.pure=true)=True:=eq_true (fun y hy=>by simp only[In4.cs,List.mem_cons,List.not_mem_nil,or_false] at hy; rcases hy with rfl|rfl|rfl|rfl<;>rfl)
 have hself:=aeq4 x x
 simp only[decide_true] at hself
 have hwr:=zbW (G:=G) [x] (by simp[maxLen]) (fun y hy=>by simp at hy; rw[hy]; exact hk)
 simp only[FL,IL,List.map_cons,List.map_nil] at hwr
 have bk:∀ a b n (s:Heap),zad (4+r.length) (BL3 a b n++(r++s))=BL3 a b n++r:=fun a b n s=>by
  have:=((zmE a b n).app hr).back s
  rw[List.append_assoc,List.length_append,nB] at this
  exact this
 simp[BL,nB,IV,hxl,hxt,kx,nx,g0,g1,g2,g3,kk,k0,zbd,hself]
 by_cases hin:x∈l
 ·have hR:ltr l x=l:=if_pos hin
  simp[zs4 0 hin,hR,bk]
 ·simp[zmD 0 hin,zbd,hself,hxl,hxt,kx,nx,g0,g1,g2,g3,kk,k0,hpu]
  refine zab hwr ?_
  cases hw:winB [x] with
  | false =>
   have hR:ltr l x=l:=by rw[ltr,if_neg hin,hw]; rfl
   simp[hR,bk]
  | true =>
   have hR:ltr l x=l++[x]:=by rw[ltr,if_neg hin,hw]; rfl
   have hm:mls l++[(V.agg x.cs,V.bool true)]=mls (l++[x]):=by simp[mls,IV]
   have hil:IL l++[x.cs]=IL (l++[x]):=by simp[IL]
   have hpure:x.cs.all V.pure=true:=rfl
   have hisz:∀ f∈IL l,f.length=4:=fun f hf=>by simp only[IL,List.mem_map] at hf; obtain⟨y,_,rfl⟩:=hf; rfl
   have hb:(l.length+1)*32≤140737488355328:=by omega
   have s0':∀ a a' b n,(BL3 a b n).set 0 (some (.cells [.vs (IL a') (.own 3)]))=BL3 a' b n:=fun a a' b n=>rfl
   have s1':∀ a b b' n,(BL3 a b n).set 1 (some (.map (mls b')))=BL3 a b' n:=fun a b b' n=>rfl
   have s3':∀ a b n n',(BL3 a b n).set 3 (some (.zone n'))=BL3 a b n':=fun a b n n'=>rfl
   simp[zmD 0 hin,zbd,hself,hxl,hxt,kx,nx,g0,g1,g2,g3,kk,k0,nB,hm,s1,hpu,s0',s1',s3',hb,hR,bk]
theorem zeB{f:Nat}{cap args:List V}{r:V}{H H':Heap}{base:Nat}{d:Option Nat}{os:List SOper}{K:List Kt}{e:Env}{Q:Ex→Env→Heap→Prop}(h:SF G f (args++cap) H r H')
  (hr:WO G base os K (e.put d r) H' Q):zkc G false (.fn f cap) args base d os K e H Q:=by
 obtain⟨r1,H1,hb,hr1,ht⟩:=h
 refine zaG hb (fun h=>by cases h) ?_
 rw[hr1,ht]
 exact hr
end Go.Ev
/- A window's letters. -/
namespace Go.Ev
open Go Go.RowKit
variable {G:Tbl}
def ltrs(l xs:List In4):List In4:=xs.foldl ltr l
theorem zcC:∀(xs l:List In4),(ltrs l xs).length≤l.length+xs.length
 | [],l=>Nat.le_refl _
 | x::xs,l=>by
  have h1:=zcC xs (ltr l x)
  have h2:=zkm l x
  show(ltrs (ltr l x) xs).length≤_
  rw[List.length_cons]; omega
theorem znn(l xs:List In4)(x:In4):ltrs l (xs++[x])=ltr (ltrs l xs) x:=by simp[ltrs]
theorem zpP(l xs ys:List In4):ltrs l (xs++ys)=ltrs (ltrs l xs) ys:=by simp[ltrs]
def ops6:List Nat:=[0,1,4,84,68,164]
def lops(n:Nat):List In4:=ops6.map fun(o:Nat)=>(⟨o,0,0,n⟩:In4)
def zdB(w:List In4)(nums:List Nat):List In4:=ltrs (ltrs (ltrs [] w) [⟨7,0,0,0⟩,⟨135,0,0,0⟩]) (nums.flatMap lops)
theorem zrx[HasWd G][HasNeg G][HasIns G][HasCheck G][HasWRight G][HasAffine G][hB:HasBitsE G][HasSymNew G][HasSym G][HasSymEval G][HasWinOf G][HasSrcN G][HasSrcL G](w:List In4)(hf:w.length≤maxLen)(hk:∀ x∈w,x.k<4294967296)(hw:winB w=true)
  (hn:∀ n∈ownN w++zdI w,n<4294967296):FP G 330 [FL w] (.tup [FL (zdB w (ownN w++zdI w)),.int .i64 0]):=by
 refine zak HasSrcL.h_search_Letters (Nat.le_of_ble_eq_true rfl) ?_
 have hwr:=zbW (G:=G) w hf hk
 have hnu:=zrw (G:=G) w hf hk hw
 have hw32:w.length≤32:=by simp only[winB,Bool.and_eq_true,decide_eq_true_eq] at hw; exact hw.1
 have hnl:(ownN w++zdI w).length≤35:=by
  have:=ziR w
  rw[List.length_append,zdI]
  simp only[List.length_append]
  have h1:∀ o:Option Nat,o.toList.length≤1:=fun o=>by cases o<;>simp
  have a1:=h1 (constI (winV [] w).L ((winV [] w).p.getD 0 0))
  have a2:=h1 (valI (zae 34) (winV [] w).L ((winV [] w).p.getD 0 0))
  have a3:=h1 (valI (4294967295::zae 33) (winV [] w).L ((winV [] w).p.getD 0 0))
  omega
 generalize ownN w++zdI w=nums at hnu hnl hn ⊢
 rw[hw] at hwr
 simp only[FL] at hwr hnu
 simp[FL]
 refine zab hwr ?_
 obtain⟨T,hT⟩:∃ T:Nat→List In4,∀ j,T j=ltrs [] (w.take j):=⟨_,fun _=>rfl⟩
 have T0:T 0=[]:=by rw[hT]; rfl
 have TN:T w.length=ltrs [] w:=by rw[hT,List.take_length]
 have Tl:∀ i,i≤w.length→(T i).length≤i:=fun i hi=>by rw[hT]; have:=zcC (w.take i) []; rw[List.length_take] at this; simp at this; omega
 have nB:∀ l,(BL l).length=4:=fun l=>rfl
 have kk:∀ l (r:Heap),(BL l++r)[4]?=r[0]?:=fun l r=>apn0 (nB l)
 have k0:∀ l (r:Heap) x,(BL l++r).set 4 x=BL l++r.set 0 x:=fun l r x=>zbT (nB l) x
 have bk:∀ l (r:Heap),zad 4 (BL l++r)=BL l:=fun l r=>(zmE l l l.length).back r
 have bk0:∀ l,zad 4 (BL l)=BL l:=fun l=>(zmE l l l.length).self
 have hg0:∀ l,(BL l)[0]?=some (some (.cells [.vs (IL l) (.own 3)])):=fun l=>rfl
 have hE:([some (.cells [.vs [] (.own 3)]),some (.map []),some (.cells [.mp 1]),some (.zone 0)]:Heap)=BL []:=rfl
 simp[hE]
 refine W_up w.length (fun i=>[(0,FL w),(4,.ptr 0 0),(6,.fn 327 [.ptr 2 0,.ptr 0 0]),(18,FL w),(19,.int .i64 w.length),(20,.int .i64 i)]) (fun i=>BL (T i)) (fun _=>True) ?_ ?_
 ·simp[zaa,FL,T0,nB,bk0]
 intro i hi _
 by_cases hlt:i<w.length
 ·obtain⟨x,hx⟩:∃ x,x=w[i]:=⟨_,rfl⟩
  have hg:w[i]?=some x:=by rw[List.getElem?_eq_getElem hlt,hx]
  have hgg:=zbg hlt
  rw[←hx] at hgg
  have hxl:x.cs.length=4:=rfl
  have hxt:x.cs.take 4=x.cs:=rfl
  have hxd:([V.int .i64 0,.int .i64 0,.int .i64 0,.int .u32 0]:List V).drop 4=[]:=rfl
  have hxk:=hk x (hx▸List.getElem_mem hlt)
  have nx:x.cs.map V.nf1=x.cs:=rfl
  have hs:T (i+1)=ltr (T i) x:=by rw[hT,hT,List.take_add_one,hg]; exact znn _ _ _
  have hp:=zkn (G:=G) (T i) x [some (.cells x.cs)] (fun n=>by simp[Blk.cl,In4.cs,clL,V.cl]) (by have:=Tl i hi; omega) hxk
  simp only[IV] at hp
  simp(disch:=omega)[ltT,FL,hgg,hxl,hxt,hlt,nB,kk,k0]
  refine zeB hp ?_
  simp(disch:=omega)[hlt,hs,zag,zaa,FL,nB,bk,-Int.natCast_add]
 ·have hne:i=w.length:=by omega
  subst hne
  have hp7:=zkn (G:=G) (ltrs [] w) ⟨7,0,0,0⟩ [] (fun n=>rfl) (by have:=zcC w []; simp at this; omega) (by decide)
  have hp8:=zkn (G:=G) (ltr (ltrs [] w) ⟨7,0,0,0⟩) ⟨135,0,0,0⟩ [] (fun n=>rfl) (by have:=zcC w []; have:=zkm (ltrs [] w) ⟨7,0,0,0⟩; simp at *; omega) (by decide)
  obtain⟨B,hB⟩:∃ B,B=ltr (ltr (ltrs [] w) ⟨7,0,0,0⟩) ⟨135,0,0,0⟩:=⟨_,rfl⟩
  rw[←hB] at hp8
  have hBl:B.length≤34:=by rw[hB]; have h1:=zcC w []; have h2:=zkm (ltrs [] w) ⟨7,0,0,0⟩; have h3:=zkm (ltr (ltrs [] w) ⟨7,0,0,0⟩) ⟨135,0,0,0⟩; simp at h1; omega
  have hres:zdB w nums=ltrs B (nums.flatMap lops):=by rw[hB]; rfl
  simp only[IV,In4.cs,List.append_nil] at hp7 hp8
  simp[FL,TN]
  refine zeB hp7 ?_
  simp[FL]
  refine zeB hp8 ?_
  simp[FL]
  refine zab hnu ?_
  obtain⟨U,hU⟩:∃ U:Nat→List In4,∀ j,U j=ltrs B ((nums.take j).flatMap lops):=⟨_,fun _=>rfl⟩
  have U0:U 0=B:=by rw[hU]; rfl
  have UN:U nums.length=zdB w nums:=by rw[hU,List.take_length,hres]
  have Ul:∀ i,(U i).length≤34+6*35:=fun i=>by
   rw[hU]
   have h1:=zcC ((nums.take i).flatMap lops) B
   have h2:((nums.take i).flatMap lops).length=6*(nums.take i).length:=by
    generalize nums.take i=l
    induction l with
    | nil=>rfl
    | cons a l ih=>rw[List.flatMap_cons,List.length_append,ih,List.length_cons]; simp[lops,ops6]; omega
   rw[h2,List.length_take] at h1
   omega
  simp[FL,hg0]
  refine W_up nums.length (fun i=>[(4,.ptr 0 0),(6,.fn 327 [.ptr 2 0,.ptr 0 0]),(35,.vs (nats .u32 nums) .no),(36,.int .i64 nums.length),(37,.int .i64 i)]) (fun i=>BL (U i)) (fun _=>True) ?_ ?_
  ·simp[zaa,FL,U0,nB,bk0]
  intro i hi2 _
  by_cases hlt:i<nums.length
  ·obtain⟨n,hn'⟩:∃ n,n=nums[i]:=⟨_,rfl⟩
   have hgn:nums[i]?=some n:=by rw[List.getElem?_eq_getElem hlt,hn']
   have hnk:=hn n (hn'▸List.getElem_mem hlt)
   obtain⟨Y,hY⟩:∃ Y:Nat→List In4,∀ j,Y j=ltrs (U i) ((lops n).take j):=⟨_,fun _=>rfl⟩
   have Y0:Y 0=U i:=by rw[hY]; rfl
   have Y6:Y 6=U (i+1):=by
    rw[hY,hU,hU,List.take_of_length_le (show(lops n).length≤6 from Nat.le_refl _),List.take_add_one,hgn]
    simp[zpP]
   have Yl:∀ j,(Y j).length≤34+6*35+6:=fun j=>by
    rw[hY]
    have h1:=zcC ((lops n).take j) (U i)
    have h2:=Ul i
    have h3:(lops n).length=6:=rfl
    rw[List.length_take,h3] at h1
    omega
   obtain⟨L6,hL6⟩:∃ L6:List V,L6=[.int .i64 0,.int .i64 1,.int .i64 4,.int .i64 84,.int .i64 68,.int .i64 164]:=⟨_,rfl⟩
   have l6:L6.length=6:=by rw[hL6]; rfl
   have kL:∀ m,clL m L6=L6:=fun m=>by rw[hL6]; simp[clL,V.cl]
   have hidx:∀ j,j<6→(L6.drop j).take 1=[.int .i64 (ops6.getD j 0:Nat)]:=fun j hj=>by
    rw[hL6]
    rcases(by omega:j=0∨j=1∨j=2∨j=3∨j=4∨j=5) with rfl|rfl|rfl|rfl|rfl|rfl<;>rfl
   simp(disch:=omega)[ltT,hlt,hgn,hn'.symm,←hL6,hg0]
   refine W_up 6 (fun j=>[(4,.ptr 0 0),(6,.fn 327 [.ptr 2 0,.ptr 0 0]),(10,.int .u32 n),(35,.vs (nats .u32 nums) .no),(36,.int .i64 nums.length),(37,.int .i64 i),(41,.agg L6),(42,.int .i64 j)]) (fun j=>BL (Y j)) (fun _=>True) ?_ ?_
   ·simp[zaa,Y0,nB,bk0,kL]
   intro j hj _
   by_cases hj6:j<6
   ·obtain⟨o,ho⟩:∃ o,o=ops6.getD j 0:=⟨_,rfl⟩
    have hs:Y (j+1)=ltr (Y j) ⟨o,0,0,n⟩:=by
     rw[hY,hY,List.take_add_one,←znn]
     congr 2
     have:(lops n)[j]?=some ⟨o,0,0,n⟩:=by
      rw[ho]
      rcases(by omega:j=0∨j=1∨j=2∨j=3∨j=4∨j=5) with rfl|rfl|rfl|rfl|rfl|rfl<;>rfl
     rw[this]; rfl
    have hi6:=hidx j hj6
    rw[←ho] at hi6
    have hp:=zkn (G:=G) (Y j) ⟨o,0,0,n⟩ [] (fun n=>rfl) (by have:=Yl j; omega) hnk
    simp only[IV,In4.cs,List.append_nil] at hp
    simp(disch:=omega)[ltT,hj6,l6,hi6,leTn]
    refine zeB hp ?_
    simp(disch:=omega)[hj6,hs,zag,zaa,nB,bk0,kL,-Int.natCast_add]
   ·obtain rfl:j=6:=by omega
    simp(disch:=omega)[hlt,zag,zaa,nB,bk0,Y6,-Int.natCast_add]
  ·have hne:i=nums.length:=by omega
   subst hne
   simp[hg0,UN]
end Go.Ev
/- A window's candidates: search.candidates, hurdleref19.Candidate. -/
namespace Go.Ev
open Go Go.RowKit
variable {G:Tbl}
def zlY(L:List In4):List (List In4):=L.flatMap fun x=>L.map fun y=>[x,y]
def zbD(w L:List In4):List (List In4) :=
 if w.length=0 then [] else []::(if w.length=1 then [] else L.map (fun x=>[x])++(if w.length=2 then [] else zlY L))
theorem zno{L:List In4}{i j:Nat}{x y:In4}:∀{K:List In4},K[i]?=some x→L[j]?=some y→(K.flatMap fun x=>L.map fun y=>[x,y])[i*L.length+j]?=some [x,y]
 | [],h,_=>by simp at h
 | z::K,h,h2=>by
  have hj:=(List.getElem?_eq_some_iff.1 h2).1
  rw[List.flatMap_cons]
  cases i with
  | zero =>
   simp only[List.getElem?_cons_zero,Option.some.injEq] at h
   subst h
   rw[Nat.zero_mul,Nat.zero_add,List.getElem?_append_left (by simpa using hj),List.getElem?_map,h2]; rfl
  | succ i =>
   rw[List.getElem?_cons_succ] at h
   rw[List.getElem?_append_right (by rw[List.length_map,Nat.succ_mul]; omega),List.length_map,show(i+1)*L.length+j-L.length=i*L.length+j by rw[Nat.succ_mul]; omega]
   exact zno h h2
theorem znp(L:List In4):∀ K:List In4,(K.flatMap fun x=>L.map fun y=>[x,y]).length=K.length*L.length
 | []=>by simp
 | z::K=>by rw[List.flatMap_cons,List.length_append,znp L K,List.length_map,List.length_cons,Nat.succ_mul]; omega
section
variable {w L:List In4} {i j:Nat} {x y:In4}
theorem zvj(hw:w.length≠0):(zbD w L)[0]?=some []:=by simp[zbD,hw]
theorem zAN(hw:2≤w.length)(h:L[i]?=some x):(zbD w L)[i+1]?=some [x]:=by
 have hi:=(List.getElem?_eq_some_iff.1 h).1
 rw[zbD,if_neg (by omega),List.getElem?_cons_succ,if_neg (by omega),List.getElem?_append_left (by simpa using hi),List.getElem?_map,h]; rfl
theorem zAO(hw:3≤w.length)(h:L[i]?=some x)(h2:L[j]?=some y):(zbD w L)[L.length+1+(i*L.length+j)]?=some [x,y]:=by
 rw[zbD,if_neg (by omega),show L.length+1+(i*L.length+j)=(L.length+(i*L.length+j))+1 by omega,List.getElem?_cons_succ,if_neg (by omega),List.getElem?_append_right (by simp),List.length_map,if_neg (by omega),Nat.add_sub_cancel_left]
 exact zno h h2
theorem zuw:(zbD w L).length=if w.length=0 then 0 else if w.length=1 then 1 else if w.length=2 then L.length+1 else L.length+1+L.length*L.length:=by
 unfold zbD
 split
 ·rfl
 split
 ·rfl
 split
 ·simp
 ·simp only[List.length_cons,List.length_append,List.length_map,zlY,znp]; omega
theorem zgz{c:List In4}(h:c∈zbD w L):c.length<w.length:=by
 unfold zbD at h
 split at h
 ·cases h
 ·split at h
  ·simp at h; subst h; simp; omega
  ·split at h
   ·simp at h
    rcases h with rfl|⟨a,_,rfl⟩
    ·simp; omega
    ·simp; omega
   ·simp[zlY] at h
    rcases h with rfl|⟨a,_,rfl⟩|⟨a,_,b,_,rfl⟩
    ·simp; omega
    ·simp; omega
    ·simp; omega
theorem ziS{c:List In4}(h:c∈zbD w L):∀ x∈c,x∈L:=by
 unfold zbD at h
 split at h
 ·cases h
 ·split at h
  ·simp at h; subst h; simp
  ·split at h
   ·simp at h
    rcases h with rfl|⟨a,ha,rfl⟩<;>simp_all
   ·simp[zlY] at h
    rcases h with rfl|⟨a,ha,rfl⟩|⟨a,ha,b,hb,rfl⟩<;>simp_all
end
def zbM(hit:Nat→List In4→Bool):List (List In4)→Nat→Option (Nat×List In4)
 | [],_=>none
 | c::l,k=>if hit k c=true then some (k,c) else zbM hit l (k+1)
theorem zkO{hit:Nat→List In4→Bool}:∀{l:List (List In4)} {k:Nat},(∀ j<l.length,∀ c,l[j]?=some c→hit (k+j) c=false)→zbM hit l k=none
 | [],_,_=>rfl
 | c::l,k,h=>by
  rw[zbM,if_neg (by rw[show k=k+0 by rfl,h 0 (by simp) c rfl]; simp)]
  exact zkO fun j hj c hc=>by rw[show k+1+j=k+(j+1) by omega]; exact h (j+1) (by simp; omega) c (by simpa using hc)
theorem zjP{hit:Nat→List In4→Bool}{c:List In4}:∀{l:List (List In4)} {k j:Nat},l[j]?=some c→hit (k+j) c=true→(∀ i<j,∀ c,l[i]?=some c→hit (k+i) c=false)→zbM hit l k=some (k+j,c)
 | [],_,_,h,_,_=>by simp at h
 | d::l,k,0,h,hh,_=>by
  simp only[List.getElem?_cons_zero,Option.some.injEq] at h
  subst h
  rw[Nat.add_zero] at hh
  rw[zbM,if_pos hh]; rfl
 | d::l,k,j+1,h,hh,hn=>by
  rw[zbM,if_neg (by rw[show k=k+0 by rfl,hn 0 (by omega) d rfl]; simp)]
  rw[show k+(j+1)=k+1+j by omega] at hh ⊢
  exact zjP (by simpa using h) hh fun i hi c hc=>by rw[show k+1+i=k+(i+1) by omega]; exact hn (i+1) (by omega) c (by simpa using hc)
end Go.Ev
/- search.candidates, walked. -/
namespace Go.Ev
open Go Go.RowKit
variable {G:Tbl}
theorem zs5[HasSrcC G]{H:Heap}(hsh:zba H){id i1 i2:Nat}{w L:List In4}{tk:Tk}(hwl:w.length≤1000)(hL:L.length≤1000)
  (h1:H[i1]?=some (some (.cells [.vs (IL w) .no]))) (h2:H[i2]?=some (some (.cells [.vs (IL L) .no]))) (hid:id<H.length) {hit:Nat→List In4→Bool} {H':Nat→List In4→Heap}
  (hyes:∀ k c,(zbD w L)[k]?=some c→hit k c=false→∀ X:Heap,(∀ n,X.map (Option.map (Blk.cl n))=X)→YS G id [.int .i64 k,.vs (IL c) .full] (H++X) true (H++X))
  (hno:∀ k c,(zbD w L)[k]?=some c→hit k c=true→∀ X:Heap,(∀ n,X.map (Option.map (Blk.cl n))=X)→YS G id [.int .i64 k,.vs (IL c) .full] (H++X) false (H' k c++X))
  (hl':∀ k c,(zbD w L)[k]?=some c→hit k c=true→zad H.length (H' k c)=H' k c∧(H' k c).length=H.length) :
  SF G 328 [.yld id,.ptr i1 0,.ptr i2 0] H (.tup []) (match zbM hit (zbD w L) 0 with|some p=>H' p.1 p.2|none=>H):=by
 refine zbx HasSrcC.h_search_candidates_1 (Nat.le_of_ble_eq_true rfl) ?_
 have lt1:i1<H.length:=(List.getElem?_eq_some_iff.1 h1).1
 have lt2:i2<H.length:=(List.getElem?_eq_some_iff.1 h2).1
 have hself:=hsh.self
 have hback:=hsh.back
 have g1:=(List.getElem?_eq_some_iff.1 h1).2
 have g2:=(List.getElem?_eq_some_iff.1 h2).2
 have e1:∀ X:Heap,(H++X)[i1]?=some (some (.cells [.vs (IL w) .no])):=fun X=>by rw[List.getElem?_append_left lt1]; exact h1
 have e2:∀ X:Heap,(H++X)[i2]?=some (some (.cells [.vs (IL L) .no])):=fun X=>by rw[List.getElem?_append_left lt2]; exact h2
 have e1':∀(X:Heap) h,(H++X)[i1]'h=some (.cells [.vs (IL w) .no]):=fun X h=>(List.getElem?_eq_some_iff.1 (e1 X)).2
 have e2':∀(X:Heap) h,(H++X)[i2]'h=some (.cells [.vs (IL L) .no]):=fun X h=>(List.getElem?_eq_some_iff.1 (e2 X)).2
 have k0:∀(r:Heap) x,(H++r).set H.length x=H++r.set 0 x:=fun r x=>zbT rfl x
 have kk:∀ r:Heap,(H++r)[H.length]?=r[0]?:=fun r=>apn0 rfl
 have k01:∀(r:Heap) x,(H++r).set (H.length+1) x=H++r.set 1 x:=fun r x=>zcD rfl 1 x
 have kk1:∀ r:Heap,(H++r)[H.length+1]?=r[1]?:=fun r=>apnk rfl 1
 have hcl:=zuw (w:=w) (L:=L)
 have hpu:∀ x:In4,(∀ y∈x.cs,y.pure=true)=True:=fun x=>eq_true (fun y hy=>by simp only[In4.cs,List.mem_cons,List.not_mem_nil,or_false] at hy; rcases hy with rfl|rfl|rfl|rfl<;>rfl)
 have hxl:∀ x:In4,x.cs.length=4:=fun x=>rfl
 have hxt:∀ x:In4,x.cs.take 4=x.cs:=fun x=>rfl
 have nx:∀ x:In4,x.cs.map V.nf1=x.cs:=fun x=>rfl
 have kx:∀(x:In4) n,clL n x.cs=x.cs:=fun x n=>by simp[In4.cs,clL,V.cl]
 obtain⟨C,hC⟩:∃ C,C=zbD w L:=⟨_,rfl⟩
 rw[←hC] at hcl ⊢
 -- what follows when nothing is hit below a number
 have none_of:∀ n,C.length≤n→(∀ j<n,∀ c,C[j]?=some c→hit j c=false)→zbM hit C 0=none:=fun n hn hP=>zkO fun j hj c hc=>by rw[Nat.zero_add]; exact hP j (by omega) c hc
 have some_of:∀ k c,C[k]?=some c→hit k c=true→(∀ j<k,∀ c,C[j]?=some c→hit j c=false)→zbM hit C 0=some (k,c):=fun k c hc hh hP=>by
  have:=zjP (hit:=hit) (k:=0) hc (by rw[Nat.zero_add]; exact hh) fun i hi c hc=>by rw[Nat.zero_add]; exact hP i hi c hc
  rwa[Nat.zero_add] at this
 rw[←hC] at hyes hno hl'
 by_cases w0:w.length=0
 ·have hn:zbM hit C 0=none:=none_of 0 (by rw[hcl,if_pos w0]; exact Nat.le_refl _) fun j hj=>by omega
  have w0i:((w.length:Int)==0)=true:=by simp[w0]
  simp[h1,g1,w0,w0i,hn,hself]
 have w0i:((w.length:Int)==0)=false:=beqF (by omega)
 have c0:C[0]?=some []:=by rw[hC]; exact zvj w0
 simp[h1,g1,w0,w0i]
 cases hh0:hit 0 [] with
 | true =>
  have:=hno 0 [] c0 hh0 [] (fun n=>rfl)
  simp only[List.append_nil,IL,List.map_nil] at this
  refine zcA this ?_
  have hf:=some_of 0 [] c0 hh0 fun j hj=>by omega
  obtain⟨l1,l2⟩:=hl' 0 [] c0 hh0
  simp[hf,l1]
 | false =>
 have:=hyes 0 [] c0 hh0 [] (fun n=>rfl)
 simp only[List.append_nil,IL,List.map_nil] at this
 refine zcA this ?_
 by_cases w1:w.length=1
 ·have hn:zbM hit C 0=none:=none_of 1 (by rw[hcl,if_neg w0,if_pos w1]; exact Nat.le_refl _) fun j hj c hc=>by
   obtain rfl:j=0:=by omega
   rw[c0] at hc; cases hc; exact hh0
  simp[h1,g1,w1,hn,hself]
 have w1i:((w.length:Int)==1)=false:=beqF (by omega)
 have hw2:2≤w.length:=by omega
 simp[h1,g1,h2,g2,w1,w1i]
 have P1:∀ j<1,∀ c,C[j]?=some c→hit j c=false:=fun j hj c hc=>by
  obtain rfl:j=0:=by omega
  rw[c0] at hc; cases hc; exact hh0
 have hmap:∀ X:Heap,(∀ n,X.map (Option.map (Blk.cl n))=X)→zad H.length (H++X)=H:=fun X _=>hback X
 obtain⟨N1,hN1⟩:∃ N1:Nat→Nat,∀ i,N1 i=i+1:=⟨_,fun _=>rfl⟩
 have hN10:N1 0=1:=hN1 0
 refine W_up L.length (fun i=>[(0,.yld id),(1,.ptr i1 0),(2,.ptr i2 0),(4,.int .i64 (N1 i:Nat)),(24,.vs (IL L) .no),(25,.int .i64 L.length),(26,.int .i64 i)]) (fun _=>H) (fun i=>∀ j<i+1,∀ c,C[j]?=some c→hit j c=false) ?_ ?_
 ·simp[zaa,hself,hid,lt1,lt2,hN10]
  simpa using P1
 intro i hi hP
 by_cases hlt:i<L.length
 ·obtain⟨x,hx⟩:∃ x,x=L[i]:=⟨_,rfl⟩
  have hg:L[i]?=some x:=by rw[List.getElem?_eq_getElem hlt,hx]
  have hgg:=zbg hlt
  rw[←hx] at hgg
  have hc:C[i+1]?=some [x]:=by rw[hC]; exact zAN hw2 hg
  have hX:∀ n,([some (Blk.cells x.cs)]:Heap).map (Option.map (Blk.cl n))=[some (Blk.cells x.cs)]:=fun n=>by simp[Blk.cl,kx]
  have hX2:∀ n,([some (Blk.cells x.cs)]:Heap).map (Option.map (Blk.cl n))=[some (Blk.cells x.cs)]:=hX
  simp(disch:=omega)[ltT,hlt,hgg,hx.symm,hxl,hxt,nx,kx,kk,k0,hpu]
  have hilx:IL [x]=[x.cs]:=rfl
  cases hh:hit (i+1) [x] with
  | true =>
   have hy:=hno (i+1) [x] hc hh _ hX
   rw[hilx,←hN1 i] at hy
   refine zcA hy ?_
   have hf:=some_of (i+1) [x] hc hh hP
   obtain⟨l1,l2⟩:=hl' (i+1) [x] hc hh
   rw[←hN1 i] at l1 l2 hf
   simp[hf,zfX l1 l2]
  | false =>
   have hy:=hyes (i+1) [x] hc hh _ hX
   rw[hilx,←hN1 i] at hy
   refine zcA hy ?_
   have hP2:∀ j<i+1+1,∀ c,C[j]?=some c→hit j c=false:=fun j hj c hc'=>by
    rcases Nat.lt_succ_iff_lt_or_eq.1 hj with h|rfl
    ·exact hP j h c hc'
    ·rw[hc] at hc'; cases hc'; exact hh
   have a1:addI .i64 (N1 i:Int) 1=(N1 (i+1):Int):=by rw[hN1,hN1]; exact zag (by omega)
   simp(disch:=omega)[hlt,zag,a1,zaa,hself,hback,hid,lt1,lt2,-Int.natCast_add]
   exact hP2
 ·have hne:i=L.length:=by omega
  subst hne
  simp
  by_cases w2:w.length=2
  ·have hn:zbM hit C 0=none:=none_of (L.length+1) (by rw[hcl,if_neg w0,if_neg w1,if_pos w2]; exact Nat.le_refl _) hP
   simp[h1,g1,w2,hn,hself]
  have w2i:((w.length:Int)==2)=false:=beqF (by omega)
  have hw3:3≤w.length:=by omega
  have nn:L.length*L.length≤1000000:=Nat.le_trans (Nat.mul_le_mul hL hL) (by decide)
  simp[h1,g1,h2,g2,w2,w2i]
  obtain⟨N2,hN2⟩:∃ N2:Nat→Nat,∀ i,N2 i=L.length+1+i*L.length:=⟨_,fun _=>rfl⟩
  have hN20:N2 0=L.length+1:=by rw[hN2]; omega
  have hN1L:N1 L.length=L.length+1:=hN1 _
  refine W_up L.length (fun i=>[(0,.yld id),(2,.ptr i2 0),(4,.int .i64 (N2 i:Nat)),(42,.vs (IL L) .no),(43,.int .i64 L.length),(44,.int .i64 i)]) (fun _=>H) (fun i=>∀ j<N2 i,∀ c,C[j]?=some c→hit j c=false) ?_ ?_
  ·simp[zaa,hself,hid,lt1,lt2,hN20,hN1L]
   exact hP
  intro i hi hQ
  have hil:i*L.length≤L.length*L.length:=Nat.mul_le_mul_right _ hi
  by_cases hlt:i<L.length
  ·obtain⟨x,hx⟩:∃ x,x=L[i]:=⟨_,rfl⟩
   have hg:L[i]?=some x:=by rw[List.getElem?_eq_getElem hlt,hx]
   have hgg:=zbg hlt
   rw[←hx] at hgg
   have hX:∀ n,([some (Blk.cells x.cs)]:Heap).map (Option.map (Blk.cl n))=[some (Blk.cells x.cs)]:=fun n=>by simp[Blk.cl,kx]
   have hsx:zad (H.length+1) (H++[some (.cells x.cs)])=H++[some (.cells x.cs)]:=by
    have:=(hsh.app hX).self
    simpa using this
   have hbx:∀ r:Heap,zad (H.length+1) (H++some (.cells x.cs)::r)=H++[some (.cells x.cs)]:=fun r=>by
    have:=(hsh.app hX).back r
    simpa using this
   have hsucc:(i+1)*L.length=i*L.length+L.length:=Nat.succ_mul _ _
   have g2x:∀ r:Heap,(H++r)[i2]?=some (some (.cells [.vs (IL L) .no])):=e2
   simp(disch:=omega)[ltT,hlt,hgg,hx.symm,hxl,hxt,nx,kx,kk,k0,hpu,e2,e2']
   obtain⟨N3,hN3⟩:∃ N3:Nat→Nat,∀ j,N3 j=L.length+1+(i*L.length+j):=⟨_,fun _=>rfl⟩
   have hN30:N3 0=N2 i:=by rw[hN3,hN2]; omega
   have hN3L:N3 L.length=N2 (i+1):=by rw[hN3,hN2]; omega
   have hN3s:∀ j,N3 (j+1)=N3 j+1:=fun j=>by rw[hN3,hN3]; omega
   have hN3l:∀ j,j≤L.length→N3 j≤2000000:=fun j hj=>by rw[hN3]; omega
   refine W_up L.length (fun j=>[(0,.yld id),(2,.ptr i2 0),(4,.int .i64 (N3 j:Nat)),(8,.ptr H.length 0),(42,.vs (IL L) .no),(43,.int .i64 L.length),(44,.int .i64 i),(48,.vs (IL L) .no),(49,.int .i64 L.length),(50,.int .i64 j)]) (fun _=>H++[some (.cells x.cs)]) (fun j=>∀ m<N3 j,∀ c,C[m]?=some c→hit m c=false) ?_ ?_
   ·simp[zaa,hsx,show id<H.length+1 by omega,show i2<H.length+1 by omega,hN30]
    exact hQ
   intro j hj hR
   by_cases hjt:j<L.length
   ·obtain⟨y,hy⟩:∃ y,y=L[j]:=⟨_,rfl⟩
    have hg2:L[j]?=some y:=by rw[List.getElem?_eq_getElem hjt,hy]
    have hgg2:=zbg hjt
    rw[←hy] at hgg2
    have hc:C[L.length+1+(i*L.length+j)]?=some [x,y]:=by rw[hC]; exact zAO hw3 hg hg2
    have hXY:∀ n,([some (Blk.cells x.cs),some (Blk.cells y.cs)]:Heap).map (Option.map (Blk.cl n))=[some (Blk.cells x.cs),some (Blk.cells y.cs)]:=fun n=>by simp[Blk.cl,kx]
    have hilx:IL [x,y]=[x.cs,y.cs]:=rfl
    rw[←hN3 j] at hc
    have hql:=hN3l j (by omega)
    have hqs:=hN3s j
    obtain⟨q,hq⟩:∃ q,q=N3 j:=⟨_,rfl⟩
    rw[←hq] at hc hql hqs
    have hR':∀ m<q,∀ c,C[m]?=some c→hit m c=false:=by rw[hq]; exact hR
    have a3:addI .i64 (q:Int) 1=((q+1:Nat):Int):=zag (by omega)
    simp only[←hq]
    simp(disch:=omega)[ltT,hjt,hgg2,hy.symm,hxl,hxt,nx,kx,kk,k0,kk1,k01,hpu]
    cases hh:hit q [x,y] with
    | true =>
     have hyy:=hno q [x,y] hc hh _ hXY
     rw[hilx] at hyy
     refine zcA hyy ?_
     have hf:=some_of q [x,y] hc hh hR'
     obtain⟨l1,l2⟩:=hl' q [x,y] hc hh
     simp[hf,zfX l1 l2]
    | false =>
     have hyy:=hyes q [x,y] hc hh _ hXY
     rw[hilx] at hyy
     refine zcA hyy ?_
     have hP2:∀ m<q+1,∀ c,C[m]?=some c→hit m c=false:=fun m hm c hc'=>by
      rcases Nat.lt_succ_iff_lt_or_eq.1 hm with h|rfl
      ·exact hR' m h c hc'
      ·rw[hc] at hc'; cases hc'; exact hh
     simp(disch:=omega)[hjt,zag,a3,hqs,zaa,hsx,hbx,show id<H.length+1 by omega,show i2<H.length+1 by omega,-Int.natCast_add]
     exact hP2
   ·obtain rfl:j=L.length:=by omega
    rw[hN3L] at hR
    simp(disch:=omega)[hN3L,hlt,zag,zaa,hself,hback,hid,lt1,lt2,-Int.natCast_add,-Int.natCast_mul]
    exact hR
  ·have hne:i=L.length:=by omega
   subst hne
   have hn:zbM hit C 0=none:=none_of (N2 L.length) (by rw[hN2,hcl,if_neg w0,if_neg w1,if_neg w2]; exact Nat.le_refl _) hQ
   simp[hn,hself]
end Go.Ev
/- search.Find and search.Candidate. -/
namespace Go.Ev
open Go Go.RowKit
variable {G:Tbl}
def zjQ:SCode:=.seq (.region 0 [⟨some 11,.mv (.t 26),none⟩]) (.region 0 [⟨some 12,.mv (.t 27),none⟩])
def zjR:SCode:=.block 1 (.seq (.seq (.region 0 [⟨some 28,.mv (.t 11),none⟩,⟨some 29,.load 1 false false (.t 5),none⟩,⟨some 30,.bin .geq (.t 28) (.t 29),none⟩]) (.cond (.t 30) (.exit 0) .skip)) (.seq (.keep [3,4,6,7,8,12])
 (.seq (.region 1 [⟨some 32,.load 1 false false (.t 3),none⟩,⟨some 33,.mv (.t 12),none⟩,⟨some 34,.load 1 false false (.t 4),none⟩,⟨some 35,.pcall 312 [.t 32,.t 33,.t 34],none⟩,⟨some 31,.mv (.t 35),none⟩,⟨some 36,.ext 0 (.t 31),none⟩,⟨some 37,.ext 1 (.t 31),none⟩,
  ⟨some 13,.alloc 0 (ansC 0 none),none⟩,⟨none,.store 28 (.t 13) (.t 36),none⟩,⟨some 14,.mv (.t 37),none⟩]) (.seq (.keep [6,7,8,12,13]) (.seq (.region 0 [⟨some 38,.faddr 0 (.t 13),none⟩,⟨some 39,.load 1 false false (.t 38),none⟩,⟨some 40,.bin .eql (.t 39) (.c (.int .i64 0)),none⟩])
   (.cond (.t 40) (.seq (.region 0 [⟨some 41,.mv (.t 12),none⟩,⟨none,.store 1 (.t 6) (.t 41),none⟩,⟨none,.store 1 (.t 7) (.c (.bool true)),none⟩,⟨none,.store 1 (.t 8) (.c (.int .i64 0)),none⟩]) .ret) .skip))))))
def zko:List (Nat×V):=[(3,.ptr 0 0),(4,.ptr 1 0),(5,.ptr 2 0),(6,.ptr 3 0),(7,.ptr 4 0),(8,.ptr 5 0)]
def FH(w L:List In4)(live:Nat)(tries:Int)(o:List In4)(b:Bool)(st:LSt):Heap :=
 [some (.cells [.vs (IL w) .no]),some (.cells [.int .u32 live]),some (.cells [.int .i64 tries]),some (.cells [.vs (IL o) .full]),some (.cells [.bool b]),some (.cells [.int .i64 0]),some (.cells [.vs (IL w) .no]),some (.cells [.vs (IL L) .no]),some (.loop zko [26,27] zjQ zjR st)]
section
variable {w L o:List In4} {live:Nat} {tries:Int} {b:Bool} {st:LSt}
theorem zkp:zba (FH w L live tries o b st):=by
 intro n hn
 simp only[FH,List.length_cons,List.length_nil] at hn
 simp[FH,zko,Blk.cl,clL,V.cl,Tk.cl,show 0<n by omega,show 1<n by omega,show 2<n by omega,show 3<n by omega,show 4<n by omega,show 5<n by omega]
noncomputable def hitF(w:List In4)(live:Nat)(tries:Int)(k:Nat)(c:List In4):Bool:=decide (tries≤k)||decide ((decR w c live).1=0)
theorem zo9[HasWd G][HasNeg G][HasIns G][HasCheck G][HasData G][HasWith G][HasStep G][HasWRight G][HasWinRun G][HasWinAsg G][HasWinState G][HasWinOf G][HasAffApart G][HasAffine G][hBA:HasBitsA G][HasSymNew G][HasSym G][HasSymApart G][HasDecDf G][HasDec G]
  (k:Nat) (c:List In4) (hw:w.length≤maxLen) (hkw:∀ x∈w,x.k<4294967296) (hlv:live<4294967296) (hc:c.length≤maxLen) (hkc:∀ x∈c,x.k<4294967296) (X:Heap) (hX:∀ n,X.map (Option.map (Blk.cl n))=X) :
  YS G 8 [.int .i64 k,.vs (IL c) .full] (FH w L live tries [] false .ready++X) (!hitF w live tries k c)
   (if tries≤k then FH w L live tries [] false (.done (.exit 0))++X else if(decR w c live).1=0 then FH w L live tries c true (.done .ret)++X else FH w L live tries [] false .ready++X):=by
 have nF:∀ o b st,(FH w L live tries o b st).length=9:=fun o b st=>rfl
 obtain⟨b',H',hy,rfl,rfl⟩:=zvd (R:=fun b' H'=>b'=(!hitF w live tries k c)∧H'=(if tries≤k then FH w L live tries [] false (.done (.exit 0))++X else if(decR w c live).1=0 then FH w L live tries c true (.done .ret)++X else FH w L live tries [] false .ready++X))
  (G:=G) (H:=FH w L live tries [] false .ready++X) (id:=8) (args:=[.int .i64 k,.vs (IL c) .full]) (e0:=zko) (ps:=[26,27]) (as:=zjQ) (bo:=zjR) rfl rfl (by
  have s8:∀ o b st st' (r:Heap),(FH w L live tries o b st++r).set 8 (some (.loop zko [26,27] zjQ zjR st'))=FH w L live tries o b st'++r:=fun o b st st' r=>rfl
  have g8:∀ o b st (r:Heap),(FH w L live tries o b st++r)[8]?=some (some (.loop zko [26,27] zjQ zjR st)):=fun o b st r=>rfl
  have g0:∀ o b st (r:Heap),(FH w L live tries o b st++r)[0]?=some (some (.cells [.vs (IL w) .no])):=fun o b st r=>rfl
  have g1:∀ o b st (r:Heap),(FH w L live tries o b st++r)[1]?=some (some (.cells [.int .u32 live])):=fun o b st r=>rfl
  have g2:∀ o b st (r:Heap),(FH w L live tries o b st++r)[2]?=some (some (.cells [.int .i64 tries])):=fun o b st r=>rfl
  have g3:∀ o b st (r:Heap),(FH w L live tries o b st++r)[3]?=some (some (.cells [.vs (IL o) .full])):=fun o b st r=>rfl
  have g4:∀ o b st (r:Heap),(FH w L live tries o b st++r)[4]?=some (some (.cells [.bool b])):=fun o b st r=>rfl
  have g5:∀ o b st (r:Heap),(FH w L live tries o b st++r)[5]?=some (some (.cells [.int .i64 0])):=fun o b st r=>rfl
  have s3:∀ o o' b st (r:Heap),(FH w L live tries o b st++r).set 3 (some (.cells [.vs (IL o') .full]))=FH w L live tries o' b st++r:=fun o o' b st r=>rfl
  have s4:∀ o b b' st (r:Heap),(FH w L live tries o b st++r).set 4 (some (.cells [.bool b']))=FH w L live tries o b' st++r:=fun o b b' st r=>rfl
  have s5:∀ o b st (r:Heap),(FH w L live tries o b st++r).set 5 (some (.cells [.int .i64 0]))=FH w L live tries o b st++r:=fun o b st r=>rfl
  have fb:∀ o b st (r:Heap),zad (9+X.length) (FH w L live tries o b st++(X++r))=FH w L live tries o b st++X:=fun o b st r=>by
   have:=((zkp (w:=w) (L:=L) (live:=live) (tries:=tries) (o:=o) (b:=b) (st:=st)).app hX).back r
   rw[List.append_assoc,List.length_append,nF] at this
   exact this
  have fb0:∀ o b st,zad (9+X.length) (FH w L live tries o b st++X)=FH w L live tries o b st++X:=fun o b st=>by
   have:=fb o b st []
   simpa using this
  have kk:∀ o b st (r:Heap),(FH w L live tries o b st++(X++r))[9+X.length]?=r[0]?:=fun o b st r=>by
   rw[←List.append_assoc]; exact apn0 (by simp[nF])
  have k0:∀ o b st (r:Heap) y,(FH w L live tries o b st++(X++r)).set (9+X.length) y=FH w L live tries o b st++(X++r.set 0 y):=fun o b st r y=>by
   rw[←List.append_assoc,zbT (by simp[nF]),List.append_assoc]
  have hd:=zjc (G:=G) w c live hw hc hkw hkc hlv
  simp only[FL] at hd
  obtain⟨A,hA⟩:∃ A,A=ansC 0 none:=⟨_,rfl⟩
  have lA:A.length=28:=by rw[hA]; rfl
  obtain⟨cc,B,hcc,hB,kB,lB,B1⟩:∃(cc:Int) (B:List V),(decR w c live).1=cc∧B=ansC (decR w c live).1 (decR w c live).2∧(∀ n,clL n B=B)∧B.length=28∧B.take 1=[.int .i64 cc] :=
   ⟨_,_,rfl,rfl,fun n=>zhZ _ _ n,zkV w c live,zmf _ _⟩
  have tB:B.take 28=B:=List.take_of_length_le (by omega)
  have dA:A.drop 28=[]:=List.drop_eq_nil_of_le (by omega)
  rw[←hB] at hd
  simp only[hitF,hcc]
  simp[zjQ,zko,putP]
  refine⟨_,_,_,_,g8 _ _ _ _,?_⟩
  rw[s8]
  simp[zjR,nF,g2]
  have s3':∀ o o' b st,(FH w L live tries o b st).set 3 (some (.cells [.vs (IL o') .full]))=FH w L live tries o' b st:=fun o o' b st=>rfl
  have s4':∀ o b b' st,(FH w L live tries o b st).set 4 (some (.cells [.bool b']))=FH w L live tries o b' st:=fun o b b' st=>rfl
  have s5':∀ o b st,(FH w L live tries o b st).set 5 (some (.cells [.int .i64 0]))=FH w L live tries o b st:=fun o b st=>rfl
  by_cases ht:tries≤(k:Int)
  ·simp[ht,g8]
   exact⟨_,_,_,_,⟨rfl,rfl,rfl,rfl⟩,fb0 _ _ _⟩
  simp[ht,zaa,nF,g0,g1,g3,g4,g5]
  refine zab hd ?_
  simp[zaa,nF,g0,g1,g3,g4,g5,←hA,lA,lB,tB,dA,kB,kk,k0,B1]
  by_cases h0:cc=0
  ·simp[h0,zaa,nF,g0,g1,g3,g4,g5,s3,s4,s5,s3',s4',s5',g8,kB]
   exact⟨_,_,_,_,⟨rfl,rfl,rfl,rfl⟩,fb _ _ _ _⟩
  ·simp[h0,beqF h0,zaa,nF,g8]
   exact⟨_,_,_,_,⟨rfl,rfl,rfl,rfl⟩,fb _ _ _ _⟩)
 exact hy
end
theorem zs6{L:List Nd}(h:Inv L){x:Int}{c:Nat}(e:constI L x=some c):c<4294967296:=by
 unfold constI at e
 split at e
 ·cases hg:L[x.toNat]? with
  | none=>rw[hg] at e; cases e
  | some a =>
   rw[hg] at e
   simp only[Option.bind_some,zau] at e
   split at e
   ·exact zbo e (h.wf a (List.mem_of_getElem? hg)).1
   ·cases e
 ·cases e
theorem zqC{w:List In4}(hk:∀ x∈w,x.k<4294967296)(hw:winB w=true):∀ n∈ownN w++zdI w,n<4294967296:=by
 have hi:Inv (winV [] w).L:=(zcH Inv.nil w hk).ext.inv
 intro n hn
 rw[List.mem_append] at hn
 rcases hn with hn|hn
 ·simp only[ownN,List.mem_map,List.mem_filter] at hn
  obtain⟨x,⟨hx,_⟩,rfl⟩:=hn
  exact hk x hx
 ·simp only[zdI,List.mem_append,Option.mem_toList,Option.mem_def] at hn
  have hv:∀ v,valI v (winV [] w).L ((winV [] w).p.getD 0 0)=some n→n<4294967296:=fun v h=>by
   have h0:0≤(winV [] w).p.getD 0 0:=by
    unfold valI at h
    split at h
    ·rename_i hh; simp only[hasI,decide_eq_true_eq] at hh; exact hh.1
    ·cases h
   obtain⟨i,hi'⟩:=Int.eq_ofNat_of_zero_le h0
   rw[hi'] at h
   exact zmH hi h
  rcases hn with h|h|h
  ·exact zs6 hi h
  ·exact hv _ h
  ·exact hv _ h
noncomputable def lettersW(w:List In4):List In4:=zdB w (ownN w++zdI w)
theorem zAP{l:List In4}{x:In4}(hl:∀ y∈l,y.k<4294967296)(hx:x.k<4294967296):∀ y∈ltr l x,y.k<4294967296:=by
 unfold ltr
 split
 ·exact hl
 ·split
  ·intro y hy
   rcases List.mem_append.1 hy with h|h
   ·exact hl y h
   ·rw[List.mem_singleton.1 h]; exact hx
  ·exact hl
theorem zlZ:∀{xs l:List In4},(∀ y∈l,y.k<4294967296)→(∀ y∈xs,y.k<4294967296)→∀ y∈ltrs l xs,y.k<4294967296
 | [],_,hl,_=>hl
 | x::xs,l,hl,hx=>by
  show ∀ y∈ltrs (ltr l x) xs,y.k<4294967296
  exact zlZ (zAP hl (hx x (by simp))) fun y hy=>hx y (by simp[hy])
theorem zs7{w:List In4}{nums:List Nat}(hk:∀ x∈w,x.k<4294967296)(hn:∀ n∈nums,n<4294967296):∀ y∈zdB w nums,y.k<4294967296:=by
 refine zlZ (zlZ (zlZ (by simp) hk) ?_) ?_
 ·intro y hy
  simp only[List.mem_cons,List.not_mem_nil,or_false] at hy
  rcases hy with rfl|rfl<;>decide
 ·intro y hy
  simp only[List.mem_flatMap,lops,List.mem_map] at hy
  obtain⟨n,h1,o,_,rfl⟩:=hy
  exact hn n h1
theorem zpQ(w:List In4)(nums:List Nat):(zdB w nums).length≤w.length+2+6*nums.length:=by
 unfold zdB
 have h1:=zcC w []
 have h2:=zcC [⟨7,0,0,0⟩,⟨135,0,0,0⟩] (ltrs [] w)
 have h3:=zcC (nums.flatMap lops) (ltrs (ltrs [] w) [⟨7,0,0,0⟩,⟨135,0,0,0⟩])
 have h4:(nums.flatMap lops).length=6*nums.length:=by
  generalize nums=l
  induction l with
  | nil=>rfl
  | cons a l ih=>rw[List.flatMap_cons,List.length_append,ih,List.length_cons]; simp[lops,ops6]; omega
 simp at h1 h2
 omega
theorem zux(w:List In4):(zdI w).length≤3:=by
 have h1:∀ o:Option Nat,o.toList.length≤1:=fun o=>by cases o<;>simp
 have a1:=h1 (constI (winV [] w).L ((winV [] w).p.getD 0 0))
 have a2:=h1 (valI (zae 34) (winV [] w).L ((winV [] w).p.getD 0 0))
 have a3:=h1 (valI (4294967295::zae 33) (winV [] w).L ((winV [] w).p.getD 0 0))
 rw[zdI,List.length_append,List.length_append]
 omega
theorem zl0{w:List In4}(hk:∀ x∈w,x.k<4294967296)(hw:winB w=true):∀ y∈lettersW w,y.k<4294967296:=zs7 hk (zqC hk hw)
theorem zpa{w:List In4}(hw:winB w=true):(lettersW w).length≤300:=by
 have hw32:w.length≤32:=by simp only[winB,Bool.and_eq_true,decide_eq_true_eq] at hw; exact hw.1
 have h1:=zpQ w (ownN w++zdI w)
 have h2:=ziR w
 have h3:=zux w
 rw[List.length_append] at h1
 unfold lettersW
 omega
theorem zwe[HasSrcC G](H:Heap)(w L:List In4):Big G (.F 329 [.vs (IL w) .no,.vs (IL L) .no] H (.fn 328 [.ptr H.length 0,.ptr (H.length+1) 0]) (H++[some (.cells [.vs (IL w) .no]),some (.cells [.vs (IL L) .no])])):=by
 refine F_of HasSrcC.h_search_candidates (Nat.le_of_ble_eq_true rfl) ?_
 simp[ap0,apk,set0,setk]
noncomputable def findR(w:List In4)(live:Nat)(tries:Int):Option (List In4) :=
 match zbM (hitF w live tries) (zbD w (lettersW w)) 0 with
 | some p=>if tries≤p.1 then none else some p.2
 | none=>none
theorem zl1{hit:Nat→List In4→Bool}{p:Nat×List In4}:∀{l:List (List In4)} {k:Nat},zbM hit l k=some p→k≤p.1∧l[p.1-k]?=some p.2∧hit p.1 p.2=true
 | [],_,h=>by cases h
 | c::l,k,h=>by
  rw[zbM] at h
  split at h
  ·rename_i hh
   cases h
   exact⟨Nat.le_refl _,by simp,hh⟩
  ·obtain⟨h1,h2,h3⟩:=zl1 h
   refine⟨by omega,?_,h3⟩
   rw[show p.1-k=(p.1-(k+1))+1 by omega]
   exact h2
theorem zwf[HasWd G][HasNeg G][HasIns G][HasCheck G][HasData G][HasWith G][HasStep G][HasWRight G][HasWinRun G][HasWinAsg G][HasWinState G][HasWinOf G][HasAffApart G][HasAffine G][hBA:HasBitsA G][HasSymNew G][HasSym G][HasSymEval G][HasSymApart G][HasDecDf G][HasDec G][HasSrcN G][HasSrcL G][HasSrcC G][HasSrcF G]
  (w:List In4) (live:Nat) (tries:Int) (hf:w.length≤maxLen) (hk:∀ x∈w,x.k<4294967296) (hw:winB w=true) (hlv:live<4294967296) :
  FP G 333 [FL w,.int .u32 live,.int .i64 tries] (.tup [FL ((findR w live tries).getD []),.bool (findR w live tries).isSome,.int .i64 0]):=by
 haveI:HasBitsE G:=hBA.toHasBitsE
 refine zak HasSrcF.h_search_Find (Nat.le_of_ble_eq_true rfl) ?_
 have hl:=zrx (G:=G) w hf hk hw (zqC hk hw)
 have hLk:=zl0 hk hw
 have hLl:=zpa hw
 have hw32:w.length≤32:=by simp only[winB,Bool.and_eq_true,decide_eq_true_eq] at hw; exact hw.1
 have hR:findR w live tries=findR w live tries:=rfl
 conv at hR=>rhs; unfold findR
 change FP G 330 [FL w] (.tup [FL (lettersW w),.int .i64 0]) at hl
 generalize lettersW w=L at hl hLk hLl hR
 simp only[FL] at hl
 simp[FL]
 refine zab hl ?_
 simp
 refine zha (zwe _ w L) (by simp) ?_
 simp
 have hcnd:=zs5 (G:=G) (H:=FH w L live tries [] false .ready) zkp (id:=8) (i1:=6) (i2:=7) (w:=w) (L:=L) (tk:=.no) (by omega) (by omega) rfl rfl (show 8<9 by decide) (hit:=hitF w live tries)
  (H':=fun k c=>if tries≤(k:Int) then FH w L live tries [] false (.done (.exit 0)) else FH w L live tries c true (.done .ret))
  (fun k c hc hh X hX=>by
   have hm:=List.mem_of_getElem? hc
   have:=zo9 (G:=G) (L:=L) (tries:=tries) k c hf hk hlv (by have:=zgz hm; simp only[maxLen]; omega) (fun x hx=>hLk x (ziS hm x hx)) X hX
   rw[hh] at this
   simp only[hitF,Bool.or_eq_false_iff,decide_eq_false_iff_not] at hh
   rw[if_neg hh.1,if_neg hh.2] at this
   exact this)
  (fun k c hc hh X hX=>by
   have hm:=List.mem_of_getElem? hc
   have:=zo9 (G:=G) (L:=L) (tries:=tries) k c hf hk hlv (by have:=zgz hm; simp only[maxLen]; omega) (fun x hx=>hLk x (ziS hm x hx)) X hX
   rw[hh] at this
   simp only[hitF,Bool.or_eq_true,decide_eq_true_eq] at hh
   by_cases ht:tries≤(k:Int)
   ·rw[if_pos ht] at this ⊢
    exact this
   ·rw[if_neg ht,if_pos (hh.resolve_left ht)] at this
    rw[if_neg ht]
    exact this)
  (fun k c hc hh=>by
   by_cases ht:tries≤(k:Int)
   ·rw[if_pos ht]; exact⟨(zkp (w:=w) (L:=L) (live:=live) (tries:=tries) (o:=[]) (b:=false) (st:=.done (.exit 0))).self,rfl⟩
   ·rw[if_neg ht]; exact⟨(zkp (w:=w) (L:=L) (live:=live) (tries:=tries) (o:=c) (b:=true) (st:=.done .ret)).self,rfl⟩)
 have ht8:∀ o b st,zad 8 (FH w L live tries o b st)=[some (.cells [.vs (IL w) .no]),some (.cells [.int .u32 live]),some (.cells [.int .i64 tries]),some (.cells [.vs (IL o) .full]),some (.cells [.bool b]),some (.cells [.int .i64 0]),some (.cells [.vs (IL w) .no]),some (.cells [.vs (IL L) .no])]:=fun o b st=>by
  simp[zad,FH,Blk.cl,clL,V.cl,Tk.cl]
 cases hfc:zbM (hitF w live tries) (zbD w L) 0 with
 | none =>
  rw[hfc] at hcnd hR
  simp only[] at hcnd hR
  refine zeH hcnd rfl (.inl ⟨rfl,rfl⟩) ?_
  simp[ht8,hR,zaa]
 | some p =>
  rw[hfc] at hcnd hR
  simp only[] at hcnd hR
  by_cases ht:tries≤(p.1:Int)
  ·rw[if_pos ht] at hcnd hR
   refine zeH (x:=.exit 0) hcnd rfl (.inr ⟨rfl,by simp⟩) ?_
   simp[ht8,hR,zaa]
  ·rw[if_neg ht] at hcnd hR
   refine zeH (x:=.ret) hcnd rfl (.inr ⟨rfl,by simp⟩) ?_
   simp[ht8,hR,zaa]
end Go.Ev
/- search.Candidate; hurdleref19.Ends. -/
namespace Go.Ev
open Go Go.RowKit
variable {G:Tbl}
section
variable {w L o:List In4} {q:Int} {b:Bool} {st:LSt}
end
def Da0:Da:=⟨0,0,0,zae 6⟩
theorem zs8:Da0.ok:=⟨by decide,by decide,by decide,by simp[Da0],fun w hw=>by
 simp only[Da0,zae,List.mem_replicate] at hw
 omega⟩
end Go.Ev
/- The parts of windows of sums, and of bits: plain laws. -/
namespace Go.Ev
open Go Go.RowKit
variable {G:Tbl} {L L':List Nd}
def zvk(F:Nat→List Nd→Int→Prop):Prop:=∀ i L L' x,F i L x→L <+: L'→F i L' x
def AllN(F:Nat→List Nd→Int→Prop)(n:Nat)(L:List Nd)(p:List Int):Prop:=p.length=18∧∀ i<n,F i L (p.getD i 0)
theorem AllN.pre{F:Nat→List Nd→Int→Prop}{n:Nat}{p:List Int}(h:AllN F n L p)(hF:zvk F)(e:L <+: L'):AllN F n L' p:=⟨h.1,fun i hi=>hF i _ _ _ (h.2 i hi) e⟩
theorem AllN.set{F:Nat→List Nd→Int→Prop}{n i:Nat}{p:List Int}{x:Int}(h:AllN F n L p)(hF:zvk F)(e:L <+: L')(hx:F i L' x):AllN F n L' (p.set i x):=by
 refine⟨by rw[List.length_set]; exact h.1,fun j hj=>?_⟩
 by_cases hij:i=j
 ·subst hij
  by_cases hl:i<p.length
  ·rw[List.getD_eq_getElem?_getD,List.getElem?_set_self hl]; exact hx
  ·rw[List.set_eq_of_length_le (by omega)]; exact hF _ _ _ _ (h.2 i hj) e
 ·rw[List.getD_eq_getElem?_getD,List.getElem?_set_ne hij,←List.getD_eq_getElem?_getD]; exact hF _ _ _ _ (h.2 j hj) e
end Go.Ev
/- What is found: plain laws; the examples of layer 19. -/
namespace Go.Ev
open Go Go.RowKit
variable {G:Tbl}
section
variable {w:List In4} {live:Nat} {tries:Int}
theorem zxt{k:Nat}{c:List In4}(hc:(zbD w (lettersW w))[k]?=some c)(hk:(k:Int)<tries)(he:(decR w c live).1=0)
  (h:∀ j<k,∀ c,(zbD w (lettersW w))[j]?=some c→(decR w c live).1≠0):findR w live tries=some c:=by
 have hf:=zjP (hit:=hitF w live tries) (k:=0) hc (by simp[hitF,he]) (fun i hi c hc=>by
  have:=h i hi c hc
  simp only[hitF,Nat.zero_add,Bool.or_eq_false_iff,decide_eq_false_iff_not]
  exact⟨by omega,this⟩)
 unfold findR
 rw[hf,Nat.zero_add]
 simp only[]
 rw[if_neg (by omega)]
theorem zjS{hit:Nat→List In4→Bool}{p:Nat×List In4}:∀{l:List (List In4)} {k:Nat},zbM hit l k=some p→∀ i,k+i<p.1→∀ c,l[i]?=some c→hit (k+i) c=false
 | [],_,h=>by cases h
 | d::l,k,h=>by
  rw[zbM] at h
  split at h
  ·cases h; intro i hi; omega
  ·rename_i hh
   intro i hi c hc
   cases i with
   | zero =>
    simp only[List.getElem?_cons_zero,Option.some.injEq] at hc
    subst hc
    simpa using hh
   | succ i =>
    rw[show k+(i+1)=k+1+i by omega]
    exact zjS h i (by omega) c (by simpa using hc)
theorem zuy{c:List In4}(h:findR w live tries=some c):∃ k:Nat,(k:Int)<tries∧(zbD w (lettersW w))[k]?=some c∧(decR w c live).1=0∧∀ j<k,∀ c,(zbD w (lettersW w))[j]?=some c→(decR w c live).1≠0:=by
 unfold findR at h
 split at h
 ·rename_i p hp
  obtain⟨_,h2,h3⟩:=zl1 hp
  have h4:=zjS hp
  rw[Nat.sub_zero] at h2
  split at h
  ·cases h
  ·rename_i ht
   cases h
   simp only[hitF,Bool.or_eq_true,decide_eq_true_eq] at h3
   refine⟨p.1,by omega,h2,h3.resolve_left ht,fun j hj c hc=>?_⟩
   have:=h4 j (by omega) c hc
   simp only[hitF,Nat.zero_add,Bool.or_eq_false_iff,decide_eq_false_iff_not] at this
   exact this.2
 ·cases h
end
theorem zwg{l:List In4}{x:In4}(hl:∀ y∈l,winB [y]=true):∀ y∈ltr l x,winB [y]=true:=by
 unfold ltr
 split
 ·exact hl
 ·split
  ·rename_i hw
   intro y hy
   rcases List.mem_append.1 hy with h|h
   ·exact hl y h
   ·rw[List.mem_singleton.1 h]; exact hw
  ·exact hl
theorem ziT:∀{xs l:List In4},(∀ y∈l,winB [y]=true)→∀ y∈ltrs l xs,winB [y]=true
 | [],_,hl=>hl
 | x::xs,l,hl=>by
  show ∀ y∈ltrs (ltr l x) xs,winB [y]=true
  exact ziT (zwg hl)
theorem zpR{w:List In4}{nums:List Nat}:∀ y∈zdB w nums,zaC y=true:=by
 intro y hy
 have:=ziT (ziT (ziT (l:=[]) (by simp))) y hy
 simpa[winB] using this
theorem zuz{w L c:List In4}(hL:∀ y∈L,zaC y=true)(hc:c∈zbD w L)(hw:w.length≤32):winB c=true:=by
 have h1:=zgz hc
 have h2:=ziS hc
 simp only[winB,Bool.and_eq_true,decide_eq_true_eq,List.all_eq_true]
 exact⟨by omega,fun x hx=>hL x (h2 x hx)⟩
end Go.Ev
/- The examples of layer 19; the laws SearchSound, SearchMore. -/
namespace Go.Ev
open Go Go.RowKit
variable {G:Tbl}
theorem zuA{v w:List In4}{live:Nat}(hv:winB v=true)(hw:winB w=true):decide ((decR v w live).1=0)=zcp (winV [] v).p (winV (winV [] v).L w).p (winV [] v).st (winV (winV [] v).L w).st live:=by
 rcases dec_tells (live:=live) hv hw with⟨e,h⟩|⟨r,e,_,_,h⟩|⟨e,_,h⟩
 ·rw[e,h]; rfl
 ·rw[e,h]; rfl
 ·rw[e,h]; rfl
def sA(a:Nat):St:=⟨a,0,zae 16⟩
theorem zAQ{a:Nat}(h:a<4294967296):(sA a).ok:=⟨h,show(0:Nat)<4294967296 by decide,by simp[sA],fun w hw=>by
 simp only[sA,zae,List.mem_replicate] at hw
 omega⟩
end Go.Ev
/- Filters all of whose places are come to. -/
namespace Go.Ev
open Go Go.RowKit
def Prd(f:List In4)(i:Nat):Prop:=∃ j x o,f[j]?=some x∧o∈offs x∧j+1+o=i
def AllP(f:List In4):Prop:=∀ i,0<i→i<f.length→Prd f i
def MinM(f:List In4)(m:List Bool):Prop:=∀ i,m[i]?=some true→0<i→∃ j x o,f[j]?=some x∧m[j]?=some true∧o∈offs x∧j+1+o=i
theorem zqD:∀{f:List In4} {m:List Bool} {j:Nat} {x:In4} {o:Nat},clsB f m→f[j]?=some x→m[j]?=some true→o∈offs x→m[j+1+o]?=some true
 | [],_,_,_,_,_,h,_,_=>by simp at h
 | _::_,[],_,_,_,h,_,_,_=>by cases h
 | y::f,b::m,0,x,o,h,hx,hb,ho=>by
  simp only[List.getElem?_cons_zero,Option.some.injEq] at hx hb
  subst hx
  rw[show 0+1+o=o+1 by omega,List.getElem?_cons_succ]
  exact h.1 hb o ho
 | y::f,b::m,j+1,x,o,h,hx,hb,ho=>by
  rw[show j+1+1+o=(j+1+o)+1 by omega,List.getElem?_cons_succ]
  exact zqD h.2 (by simpa using hx) (by simpa using hb) ho
theorem zwh{f:List In4}{m:List Bool}(hc:clsB f m)(h0:m[0]?=some true)(ha:AllP f):∀ b∈m,b=true:=by
 have hl:=zdz hc
 have key:∀ n i,i≤n→i<f.length→m[i]?=some true:=fun n=>by
  induction n with
  | zero =>
   intro i hi hlt
   obtain rfl:i=0:=by omega
   exact h0
  | succ n ih =>
   intro i hi hlt
   by_cases hz:i=0
   ·subst hz; exact h0
   ·obtain⟨j,x,o,h1,h2,h3⟩:=ha i (by omega) hlt
    rw[←h3]
    exact zqD hc h1 (ih j (by omega) (by omega)) h2
 intro b hb
 obtain⟨i,hi⟩:=List.getElem?_of_mem hb
 have:=key i i (Nat.le_refl _) (by rw[hl]; exact(List.getElem?_eq_some_iff.1 hi).1)
 rw[hi] at this
 cases this; rfl
theorem zs9{f:List In4}{m:List Bool}(hs:zap f=true)(hc:clsB f m)(h0:m[0]?=some true)(ha:AllP f):pruR f m=f:=by
 refine zqB (zdz hc) (zwh hc h0 ha) ?_
 simp only[zap,Bool.and_eq_true] at hs
 exact hs.1.2
theorem zli(m:List Bool)(i o:Nat):cntB m (i+o)=cntB m i+cntB (m.drop i) o:=by
 simp only[cntB]
 rw[List.take_add,List.countP_append]
theorem zuB{m:List Bool}{i:Nat}(h:m[i]?=some true):cntB m (i+1)=cntB m i+1:=by
 rw[zli]
 have hl:=(List.getElem?_eq_some_iff.1 h)
 obtain⟨h1,h2⟩:=hl
 have:=List.drop_eq_getElem_cons h1
 rw[h2] at this
 rw[this]
 simp[cntB]
theorem zlj:∀(m:List Bool) (p:Nat),p<m.countP id→∃ i,m[i]?=some true∧cntB m i=p
 | [],p,h=>by simp at h
 | true::m,0,_=>⟨0,rfl,zdA _⟩
 | true::m,p+1,h=>by
  obtain⟨i,h1,h2⟩:=zlj m p (by simpa using h)
  exact⟨i+1,by simpa using h1,by rw[zjN,h2]; simp; omega⟩
 | false::m,p,h=>by
  obtain⟨i,h1,h2⟩:=zlj m p (by simpa using h)
  exact⟨i+1,by simpa using h1,by rw[zjN,h2]; simp⟩
theorem zxu{f:List In4}{m:List Bool}{i:Nat}{x:In4}(hl:f.length=m.length)(hx:f[i]?=some x)(hm:m[i]?=some true):(pruR f m)[cntB m i]?=some (prX (m.drop (i+1)) x):=by
 have h1:=ziQ f m i hl
 obtain⟨a1,a2⟩:=List.getElem?_eq_some_iff.1 hx
 obtain⟨b1,b2⟩:=List.getElem?_eq_some_iff.1 hm
 have e1:=List.drop_eq_getElem_cons a1
 have e2:=List.drop_eq_getElem_cons b1
 rw[a2] at e1
 rw[b2] at e2
 rw[e1,e2,pruR] at h1
 have h2:((pruR f m).drop (cntB m i))[0]?=some (prX (m.drop (i+1)) x):=by rw[h1]; rfl
 rwa[List.getElem?_drop,Nat.add_zero] at h2
theorem zuC(m:List Bool){x:In4}{o:Nat}(h:o∈offs x):cntB m o∈offs (prX m x):=by
 unfold offs at h ⊢
 rw[zhe]
 split at h
 ·cases h
 rename_i he
 rw[if_neg he]
 split at h
 ·rename_i h5
  rw[if_pos h5]
  simp only[List.mem_singleton] at h
  subst h
  simp[prX,h5]
 ·rename_i h5
  rw[if_neg h5]
  split at h
  ·rename_i hb
   rw[if_pos hb]
   simp only[List.mem_cons,List.not_mem_nil,or_false] at h
   have hp:prX m x={ x with jt:=(cntB m x.jt.toNat:Nat),jf:=(cntB m x.jf.toNat:Nat) }:=by rw[prX,if_neg h5,if_pos hb]
   rw[hp]
   rcases h with rfl|rfl<;>simp
  ·rename_i hb
   rw[if_neg hb]
   simp only[List.mem_singleton] at h ⊢
   subst h
   exact zdA _
theorem zuD{f:List In4}{m:List Bool}(hc:clsB f m)(hm:MinM f m):AllP (pruR f m):=by
 have hl:=zdz hc
 intro p hp hlt
 rw[zfI f m hl] at hlt
 obtain⟨i,h1,h2⟩:=zlj m p hlt
 have hi:0<i:=by
  rcases Nat.eq_zero_or_pos i with rfl|h
  ·rw[zdA] at h2; omega
  ·exact h
 obtain⟨j,x,o,g1,g2,g3,g4⟩:=hm i h1 hi
 refine⟨cntB m j,_,_,zxu hl g1 g2,zuC (m.drop (j+1)) g3,?_⟩
 rw[←h2,←g4,zli,zuB g2]
theorem offs_put(a e less i:Nat){x:In4}{o:Nat}(h:o∈offs x):adjN a e less i o∈offs (putI a e less i x)∨o=0∧0∈offs (putI a e less i x):=by
 unfold offs at h ⊢
 rw[zh0]
 split at h
 ·cases h
 rename_i he
 rw[if_neg he]
 split at h
 ·rename_i h5
  rw[if_pos h5]
  simp only[List.mem_singleton] at h
  subst h
  simp[putI,h5]
 ·rename_i h5
  rw[if_neg h5]
  split at h
  ·rename_i hb
   rw[if_pos hb]
   left
   simp only[List.mem_cons,List.not_mem_nil,or_false] at h
   have hp:putI a e less i x={ x with jt:=(adjN a e less i x.jt.toNat:Nat),jf:=(adjN a e less i x.jf.toNat:Nat) }:=by rw[putI,if_neg h5,if_pos hb]
   rw[hp]
   rcases h with rfl|rfl<;>simp
  ·rename_i hb
   rw[if_neg hb]
   simp only[List.mem_singleton] at h ⊢
   exact .inr ⟨h,trivial⟩
theorem zuE{f w:List In4}{a n:Nat}(hs:zap f=true)(hf:zb5 f a n=true)(hn:0<n)(hbd:a+n≤f.length)(hw:winB w=true)(hwn:w.length≤n)(ha:AllP f):AllP (putL f a n w):=by
 have hL:=zkY (w:=w) hbd
 have hg1:∀ j x,j<a→f[j]?=some x→(putL f a n w)[j]?=some (putI a (a+n) (n-w.length) j x):=fun j x hj hx=>by
  have:=congrArg (fun l=>l[0]?) (zkE (w:=w) (n:=n) hj hx)
  simpa[List.getElem?_drop] using this
 have hg2:∀ j x,a+n≤j→f[j]?=some x→(putL f a n w)[j-(n-w.length)]?=some x:=fun j x hj hx=>by
  have:=congrArg (fun l=>l[0]?) (zkF (f:=f) (w:=w) (a:=a) hwn hj)
  simp only[List.getElem?_drop,Nat.add_zero] at this
  rw[this]; exact hx
 have hg3:∀ j,j<w.length→(putL f a n w)[a+j]?=w[j]?:=fun j hj=>by
  have:=congrArg (fun l=>l[j]?) (zmh f w a n)
  simp only[List.getElem?_drop] at this
  rw[this,List.getElem?_append_left hj]
 have plain0:∀ x∈w,0∈offs x:=fun x hx=>by
  obtain⟨h5,hb,h6,h22⟩:=zfY (zfa hw x hx)
  simp[offs,zay,h5,hb,h6,h22]
 -- whatever goes to a place from ahead of the piece
 have ahead:∀ j x o,j<a→f[j]?=some x→o∈offs x→j+1+o≤a→Prd (putL f a n w) (j+1+o):=fun j x o hj hx ho hle=>by
  refine⟨j,_,o,hg1 j x hj hx,?_,rfl⟩
  have hadj:adjN a (a+n) (n-w.length) j o=o:=by unfold adjN; rw[if_neg (by omega)]
  rcases offs_put a (a+n) (n-w.length) j ho with h|⟨h,h'⟩
  ·rw[hadj] at h; exact h
  ·rw[h]; exact h'
 intro i hi hlt
 rw[hL] at hlt
 by_cases c1:i≤a
 ·obtain⟨j,x,o,h1,h2,h3⟩:=ha i hi (by omega)
  rw[←h3]
  exact ahead j x o (by omega) h1 h2 (by omega)
 by_cases c2:i≤a+w.length
 ·have hlt2:i-a-1<w.length:=by omega
  have hg:=hg3 (i-a-1) hlt2
  rw[List.getElem?_eq_getElem hlt2] at hg
  exact⟨a+(i-a-1),_,0,hg,plain0 _ (List.getElem_mem hlt2),by omega⟩
 ·obtain⟨j,x,o,h1,h2,h3⟩:=ha (i+(n-w.length)) (by omega) (by omega)
  by_cases c3:j<a
  ·refine⟨j,_,o-(n-w.length),hg1 j x c3 h1,?_,by omega⟩
   have hadj:adjN a (a+n) (n-w.length) j o=o-(n-w.length):=by unfold adjN; rw[if_pos ⟨c3,by omega⟩]
   rcases offs_put a (a+n) (n-w.length) j h2 with h|⟨h,h'⟩
   ·rw[hadj] at h; exact h
   ·omega
  by_cases c4:j<a+n
  ·-- from within the piece it goes on to the next alone
   exfalso
   have hm:x∈(f.drop a).take n:=by
    refine List.mem_of_getElem? (i:=j-a) ?_
    rw[List.getElem?_take,if_pos (by omega),List.getElem?_drop,show a+(j-a)=j by omega]
    exact h1
   simp only[zb5,Bool.and_eq_true] at hf
   obtain⟨h5,hb,h6,h22⟩:=zfY (zfa hf.1 x hm)
   have:offs x=[0]:=by simp[offs,zay,h5,hb,h6,h22]
   rw[this] at h2
   simp only[List.mem_singleton] at h2
   omega
  ·exact⟨j-(n-w.length),x,o,hg2 j x (by omega) h1,h2,by omega⟩
theorem zta{v w:List In4}{live:Nat}(hk:∀ x∈v,x.k<4294967296)(hkw:∀ x∈w,x.k<4294967296)(hv:winB v=true)(hw:winB w=true)
  (h:zcp (winV [] v).p (winV (winV [] v).L w).p (winV [] v).st (winV (winV [] v).L w).st live=true):divN v v.length=divN w w.length:=by
 have hst:=(zja.1 h).2
 have z34:(sA 0).ok:=zAQ (by decide)
 have k1:=zcH Inv.nil v hk
 have V1:=(ziN Inv.nil z34 zs8 hk hv)
 have V2:=ziN k1.ext.inv z34 zs8 hkw hw
 have e1:=V1.num
 have e2:=V2.num
 rw[←e1,←e2,hst]
theorem zgq{w:List In4}:divN w w.length=0↔∀ x∈w,x.op≠60:=by
 rw[divN,List.take_length,List.countP_eq_zero]
 simp
end Go.Ev
/- Tables of rules: plain laws. -/
namespace Go.Ev
open Go Go.RowKit
theorem ztb:∀ a:List UInt8,Op.bytesLess a a=false
 | []=>rfl
 | x::a=>by simp[Op.bytesLess,ztb a]
theorem ztc:∀ a b:List UInt8,Op.bytesLess a b=false→a≠b→Op.bytesLess b a=true
 | [],[],_,h=>absurd rfl h
 | [],_::_,h,_=>by simp[Op.bytesLess] at h
 | _::_,[],_,_=>by simp[Op.bytesLess]
 | x::a,y::b,h,hne=>by
  simp only[Op.bytesLess,Bool.or_eq_false_iff,Bool.and_eq_false_iff,decide_eq_false_iff_not,beq_eq_false_iff_ne] at h
  simp only[Op.bytesLess,Bool.or_eq_true,Bool.and_eq_true,decide_eq_true_eq,beq_iff_eq]
  by_cases e:x=y
  ·subst e
   exact .inr ⟨rfl,ztc a b (h.2.resolve_left (fun h=>h rfl)) (fun e=>hne (by rw[e]))⟩
  ·refine .inl ?_
   have h1:=h.1
   rw[UInt8.not_lt] at h1
   exact UInt8.lt_of_le_of_ne h1 (fun e'=>e e'.symm)
theorem zpb:∀ a b c:List UInt8,Op.bytesLess a b=true→Op.bytesLess b c=true→Op.bytesLess a c=true
 | _,[],_,h,_=>by cases ‹List UInt8›<;>simp[Op.bytesLess] at h
 | _,_::_,[],_,h=>by simp[Op.bytesLess] at h
 | [],_::_,_::_,_,_=>by simp[Op.bytesLess]
 | x::a,y::b,z::c,h1,h2=>by
  simp only[Op.bytesLess,Bool.or_eq_true,Bool.and_eq_true,decide_eq_true_eq,beq_iff_eq] at h1 h2 ⊢
  rcases h1 with h1|⟨rfl,h1⟩
  ·rcases h2 with h2|⟨rfl,h2⟩
   ·exact .inl (UInt8.lt_trans h1 h2)
   ·exact .inl h1
  ·rcases h2 with h2|⟨rfl,h2⟩
   ·exact .inl h2
   ·exact .inr ⟨rfl,zpb a b c h1 h2⟩
structure TR where
 fr:List In4
 to:List In4
 lv:Nat
def zl2(k:Nat):List UInt8:=(List.range 4).map fun i=>UInt8.ofNat (k/2^(8*i)%256)
def encI(x:In4):List UInt8:=[UInt8.ofNat (x.op.toNat%256),UInt8.ofNat (x.op.toNat/256%256),UInt8.ofNat (x.jt.toNat%256),UInt8.ofNat (x.jf.toNat%256)]++zl2 x.k
def encW(w:List In4):List UInt8:=w.flatMap encI
def TR.by(r:TR):List UInt8:=zl2 r.lv++([UInt8.ofNat (r.fr.length%256),UInt8.ofNat (r.to.length%256)]++(encW r.fr++encW r.to))
def TR.may(r:TR):Bool:=winB r.fr&&winB r.to&&decide (r.to.length<r.fr.length)&&decide (r.lv<262144)
def zcy(a b:TR):Bool:=Op.bytesLess a.by b.by
def zb8:List TR→Bool
 | []=>true
 | [_]=>true
 | a::b::l=>zcy a b&&zb8 (b::l)
def tblB(t:List TR):Bool:=t.all TR.may&&zb8 t&&decide (t.length≤64)
def zaP(t:List TR)(r:TR):Nat:=(t.takeWhile fun y=>zcy y r).length
def hasR(t:List TR)(r:TR):Bool:=match t[zaP t r]? with
 | some y=>decide (y.by=r.by)
 | none=>false
def zaQ(t:List TR)(r:TR):List TR×Int :=
 if(tblB t&&r.may)=true then if hasR t r=true then(t,0) else if t.length=64 then(t,3) else(t.take (zaP t r)++r::t.drop (zaP t r),0)
 else(t,1)
def ze4(t:List TR)(w:List In4)(live:Nat):Option (List In4) :=
 if tblB t=true then(t.find? fun r=>decide (r.fr=w)&&decide (live%262144=r.lv)).map TR.to else none
theorem znq{a:TR}{t:List TR}(h:zb8 (a::t)=true):zb8 t=true:=by
 cases t with
 | nil=>rfl
 | cons b l=>simp only[zb8,Bool.and_eq_true] at h; exact h.2
theorem zkq{a:TR}:∀{t:List TR},zb8 (a::t)=true→∀ b∈t,zcy a b=true
 | [],_,b,hb=>by cases hb
 | c::t,h,b,hb=>by
  simp only[zb8,Bool.and_eq_true] at h
  rcases List.mem_cons.1 hb with rfl|hb
  ·exact h.1
  ·exact zpb _ _ _ h.1 (zkq h.2 b hb)
theorem znr{a:TR}{t:List TR}(h:∀ b,t.head?=some b→zcy a b=true)(ht:zb8 t=true):zb8 (a::t)=true:=by
 cases t with
 | nil=>rfl
 | cons b l =>
  simp only[zb8,Bool.and_eq_true]
  exact⟨h b rfl,ht⟩
theorem zqE:∀{t:List TR} {r:TR},zb8 t=true→r∈t→hasR t r=true
 | [],r,_,h=>by cases h
 | a::t,r,hr,h=>by
  rcases List.mem_cons.1 h with rfl|h
  ·have hp:zaP (r::t) r=0:=by simp[zaP,zcy,ztb]
   simp[hasR,hp]
  ·have hl:=zkq hr r h
   have hp:zaP (a::t) r=zaP t r+1:=by simp[zaP,hl]
   have ih:=zqE (znq hr) h
   rw[hasR,hp,List.getElem?_cons_succ]
   exact ih
theorem zpc:∀{t:List TR} {r:TR},zb8 t=true→hasR t r=false→zb8 (t.take (zaP t r)++r::t.drop (zaP t r))=true
 | [],r,_,_=>by simp[zaP,zb8]
 | a::t,r,h,hn=>by
  cases hl:zcy a r with
  | true =>
   have hp:zaP (a::t) r=zaP t r+1:=by simp[zaP,hl]
   have hn':hasR t r=false:=by
    rw[hasR,hp,List.getElem?_cons_succ] at hn
    exact hn
   have ih:=zpc (znq h) hn'
   rw[hp,List.take_succ_cons,List.drop_succ_cons,List.cons_append]
   refine znr (fun b hb=>?_) ih
   have hm:b∈t.take (zaP t r)++r::t.drop (zaP t r):=List.mem_of_mem_head? hb
   rw[List.mem_append,List.mem_cons] at hm
   rcases hm with hm|rfl|hm
   ·exact zkq h b (List.mem_of_mem_take hm)
   ·exact hl
   ·exact zkq h b (List.mem_of_mem_drop hm)
  | false =>
   have hp:zaP (a::t) r=0:=by simp[zaP,hl]
   rw[hp,List.take_zero,List.drop_zero,List.nil_append]
   refine znr (fun b hb=>?_) h
   simp only[List.head?_cons,Option.some.injEq] at hb
   subst hb
   rw[hasR,hp] at hn
   simp only[List.getElem?_cons_zero,decide_eq_false_iff_not] at hn
   exact ztc _ _ hl hn
theorem zpd(t:List TR)(r:TR):zaP t r≤t.length:=by
 unfold zaP
 exact(List.takeWhile_prefix _).length_le
theorem zuF{t:List TR}{r:TR}(ht:tblB t=true)(hr:r.may=true):tblB (zaQ t r).1=true∧t.length≤(zaQ t r).1.length∧(zaQ t r).1.length≤t.length+1∧(∀ x∈(zaQ t r).1,x∈t∨x=r):=by
 unfold zaQ
 rw[ht,hr,if_pos (show(true&&true)=true from rfl)]
 have same:tblB t=true∧t.length≤t.length∧t.length≤t.length+1∧(∀ x∈t,x∈t∨x=r):=⟨ht,Nat.le_refl _,by omega,fun x hx=>.inl hx⟩
 split
 ·exact same
 rename_i hh
 split
 ·exact same
 rename_i h64
 have hp:=zpd t r
 simp only[tblB,Bool.and_eq_true,decide_eq_true_eq] at ht
 obtain⟨⟨h1,h2⟩,h3⟩:=ht
 have hlen:(t.take (zaP t r)++r::t.drop (zaP t r)).length=t.length+1:=by
  simp only[List.length_append,List.length_cons,List.length_take,List.length_drop]; omega
 have hmem:∀ x∈t.take (zaP t r)++r::t.drop (zaP t r),x∈t∨x=r:=fun x hx=>by
  rw[List.mem_append,List.mem_cons] at hx
  rcases hx with hx|rfl|hx
  ·exact .inl (List.mem_of_mem_take hx)
  ·exact .inr rfl
  ·exact .inl (List.mem_of_mem_drop hx)
 refine⟨?_,by rw[hlen]; omega,by rw[hlen]; exact Nat.le_refl _,hmem⟩
 simp only[tblB,Bool.and_eq_true,decide_eq_true_eq]
 refine⟨⟨?_,zpc h2 (by simpa using hh)⟩,by rw[hlen]; omega⟩
 rw[List.all_eq_true] at h1 ⊢
 intro x hx
 rcases hmem x hx with h|rfl
 ·exact h1 x h
 ·exact hr
theorem ztd{t:List TR}{r:TR}(ht:tblB t=true)(hr:r∈t):zaQ t r=(t,0):=by
 have ht':=ht
 simp only[tblB,Bool.and_eq_true] at ht
 have hm:=List.all_eq_true.1 ht.1.1 r hr
 have hh:=zqE ht.1.2 hr
 unfold zaQ
 rw[ht',hm,if_pos (show(true&&true)=true from rfl),if_pos hh]
end Go.Ev
/- Filters made shorter: plain laws. -/
namespace Go.Ev
open Go Go.RowKit
def zkr(f:List In4)(a n:Nat):Nat:=zas (nd (f.drop (a+n))) 18
def zcY(f:List In4)(a n:Nat):List In4:=(f.drop a).take n
noncomputable def zcz(w:List In4)(t:List TR)(live:Nat)(tries:Int):Option (List In4) :=
 match ze4 t w live with
 | some x=>if winB x=true∧(decR w x live).1=0 then some x else findR w live tries
 | none=>findR w live tries
noncomputable def tryP(f:List In4)(t:List TR)(tries:Int)(p:Pc):Option (List In4×List TR) :=
 (zcz (zcY f p.1 p.2) t (zkr f p.1 p.2) tries).map fun x=>(putL f p.1 p.2 x,(zaQ t ⟨zcY f p.1 p.2,x,zkr f p.1 p.2⟩).1)
noncomputable def roundR(f:List In4)(t:List TR)(tries most:Int):Option (List In4×List TR):=(rows f most f.length).findSome? (tryP f t tries)
noncomputable def zaU(tries most:Int):Nat→List In4→List TR→(List In4×List TR)×Nat×Bool
 | 0,f,t=>((f,t),0,false)
 | k+1,f,t=>match roundR f t tries most with
  | none=>((f,t),0,true)
  | some q=>((zaU tries most k q.1 q.2).1,(zaU tries most k q.1 q.2).2.1+1,(zaU tries most k q.1 q.2).2.2)
theorem zte{t:List TR}{w x:List In4}{live:Nat}(h:ze4 t w live=some x):∃ r∈t,r.fr=w∧r.to=x∧r.may=true:=by
 unfold ze4 at h
 split at h
 ·rename_i ht
  rw[Option.map_eq_some_iff] at h
  obtain⟨r,h1,h2⟩:=h
  have h3:=List.find?_some h1
  have h4:=List.mem_of_find?_eq_some h1
  simp only[Bool.and_eq_true,decide_eq_true_eq] at h3
  simp only[tblB,Bool.and_eq_true] at ht
  exact⟨r,h4,h3.1,h2,List.all_eq_true.1 ht.1.1 r h4⟩
 ·cases h
theorem zpe{w x:List In4}{t:List TR}{live:Nat}{tries:Int}(hk:∀ y∈w,y.k<4294967296)(hw:winB w=true)(htk:∀ r∈t,∀ y∈r.to,y.k<4294967296)(h:zcz w t live tries=some x) :
  winB x=true∧x.length<w.length∧(decR w x live).1=0∧∀ y∈x,y.k<4294967296:=by
 have hw32:w.length≤32:=by simp only[winB,Bool.and_eq_true,decide_eq_true_eq] at hw; exact hw.1
 have ff:findR w live tries=some x→winB x=true∧x.length<w.length∧(decR w x live).1=0∧∀ y∈x,y.k<4294967296:=fun h=>by
  obtain⟨k,_,hc,h0,_⟩:=zuy h
  have hm:=List.mem_of_getElem? hc
  exact⟨zuz zpR hm hw32,zgz hm,h0,fun y hy=>zl0 hk hw y (ziS hm y hy)⟩
 unfold zcz at h
 split at h
 ·rename_i y hy
  split at h
  ·rename_i hh
   cases h
   obtain⟨r,h1,h2,h3,h4⟩:=zte hy
   simp only[TR.may,Bool.and_eq_true,decide_eq_true_eq] at h4
   exact⟨hh.1,by rw[←h2,←h3]; exact h4.1.2,hh.2,by rw[←h3]; exact htk r h1⟩
  ·exact ff h
 ·exact ff h
def TblK(t:List TR):Prop:=∀ r∈t,(∀ y∈r.fr,y.k<4294967296)∧(∀ y∈r.to,y.k<4294967296)∧r.lv<4294967296
structure RdOk (f:List In4) (t:List TR) (f':List In4) (t':List TR):Prop where
 sound:zap f'=true
 k:∀ y∈f',y.k<4294967296
 len:f'.length<f.length
 run:∀ d:Da,d.ok→(run d f' St0).1=(run d f St0).1∧((∀ y∈f,y.op≠60)→(run d f' St0).2≤(run d f St0).2)
 divs:(∀ y∈f,y.op≠60)→∀ y∈f',y.op≠60
 all:AllP f→AllP f'
 tk:TblK t'
 tbl:tblB t=true→tblB t'=true∧t.length≤t'.length∧t'.length≤t.length+1∧∀ r∈t',r∈t∨winB r.fr=true∧winB r.to=true∧(decR r.fr r.to r.lv).1=0
theorem zwi{t:List TR}{r:TR}(ht:TblK t)(h1:∀ y∈r.fr,y.k<4294967296)(h2:∀ y∈r.to,y.k<4294967296)(h3:r.lv<4294967296):TblK (zaQ t r).1:=by
 unfold zaQ
 split
 ·split
  ·exact ht
  ·split
   ·exact ht
   ·intro x hx
    rw[List.mem_append,List.mem_cons] at hx
    rcases hx with hx|rfl|hx
    ·exact ht x (List.mem_of_mem_take hx)
    ·exact⟨h1,h2,h3⟩
    ·exact ht x (List.mem_of_mem_drop hx)
 ·exact ht
theorem zpf{f f':List In4}{t t':List TR}{tries most:Int}(hs:zap f=true)(hk:∀ y∈f,y.k<4294967296)(ht:TblK t)(h:roundR f t tries most=some (f',t')):RdOk f t f' t':=by
 obtain⟨p,hp,he⟩:=List.exists_of_findSome?_eq_some h
 obtain⟨hpa,hc,h2,h32⟩:=zkX hp
 simp only[cnd,zfN,zcq,inB,Bool.and_eq_true,decide_eq_true_eq] at hc
 obtain⟨⟨_,_⟩,_,⟨i1,i2,i3,i4⟩,hfn⟩:=hc
 have hfn:zb5 f p.1 p.2=true:=by simpa using hfn
 have hn:0<p.2:=by omega
 have hbd:p.1+p.2≤f.length:=by omega
 have hlast:=zm2 hs hfn hn hbd
 unfold tryP at he
 rw[Option.map_eq_some_iff] at he
 obtain⟨x,hx,e⟩:=he
 cases e
 obtain⟨P,hP⟩:∃ P,P=zcY f p.1 p.2:=⟨_,rfl⟩
 have hPl:P.length=p.2:=by rw[hP,zcY,List.length_take,List.length_drop]; omega
 have hPk:∀ y∈P,y.k<4294967296:=by rw[hP]; exact zj4 hk _ _
 have hPw:winB P=true:=by
  rw[hP]
  simp only[zb5,Bool.and_eq_true] at hfn
  exact hfn.1
 obtain⟨live,hlv⟩:∃ live,live=zkr f p.1 p.2:=⟨_,rfl⟩
 have hlv18:live<262144:=by rw[hlv]; exact zbk _ 18
 rw[←hP,←hlv] at hx ⊢
 obtain⟨w1,w2,w3,w4⟩:=zpe hPk hPw (fun r hr=>(ht r hr).2.1) hx
 have hxl:x.length≤p.2:=by omega
 have hdf:∀(d:Da),d.ok→∀ s:St,s.ok→zcw P x live s d=false:=fun d hd s hso=>by
  rcases dec_tells (live:=live) hPw w1 with⟨_,h⟩|⟨r,h,_⟩|⟨h,_⟩
  ·exact zr6 hPk w4 hso hd hPw w1 h
  ·rw[h] at w3; cases w3
  ·rw[h] at w3; cases w3
 have hdv:divN P P.length=divN x x.length:=by
  rcases dec_tells (live:=live) hPw w1 with⟨_,h⟩|⟨r,h,_⟩|⟨h,_⟩
  ·exact zta hPk w4 hPw w1 h
  ·rw[h] at w3; cases w3
  ·rw[h] at w3; cases w3
 have hPs:∀ y∈P,y∈f:=fun y hy=>by rw[hP] at hy; exact List.mem_of_mem_drop (List.mem_of_mem_take hy)
 have hmay:(⟨P,x,live⟩:TR).may=true:=by
  simp only[TR.may,hPw,w1,Bool.true_and,Bool.and_eq_true,decide_eq_true_eq]
  exact⟨by omega,hlv18⟩
 refine⟨zse hs hfn hn hbd w1 hxl,zAj hk w4,by rw[zkY hbd]; omega,fun d hd=>?_,fun hd=>?_,fun ha=>zuE hs hfn hn hbd w1 hxl ha,zwi ht hPk w4 (show live<4294967296 by omega),fun htb=>?_⟩
 ·have:=zlx (live:=live) hs hfn hn hbd w1 hxl hk w4 hd (fun q hq hnd=>by
   rw[zdH,zvu,hlv,zkr,zbK]; simp[hq,hnd]) (by show ∀ s:St,s.ok→zcw (zcY f p.1 p.2) x live s d=false; rw[←hP]; exact hdf d hd) f.length 0 St0 (by omega) (by omega) (.inl (Nat.zero_le _)) zxk
  rw[if_pos (Nat.zero_le _),List.drop_zero,List.drop_zero] at this
  refine⟨this.1,fun hnd=>?_⟩
  rcases this.2 with h|h
  ·exact h
  ·exfalso
   have h0:=(zgq (w:=P)).2 fun y hy=>hnd y (hPs y hy)
   rw[hPl] at h0
   change 0<divN (zcY f p.1 p.2) p.2 at h
   rw[←hP] at h
   omega
 ·have h0:=(zgq (w:=P)).2 fun y hy=>hd y (hPs y hy)
  rw[hdv] at h0
  have hx60:=zgq.1 h0
  intro y hy
  simp only[putL,List.mem_append] at hy
  rcases hy with(hy|hy)|hy
  ·simp only[pre,List.mem_map,List.mem_range] at hy
   obtain⟨i,hi,rfl⟩:=hy
   rw[zh0]
   rw[List.getD,List.getElem?_eq_getElem (show i<f.length by omega)]
   exact hd _ (List.getElem_mem _)
  ·exact hx60 y hy
  ·exact hd y (List.mem_of_mem_drop hy)
 ·obtain⟨l1,l2,l3,l4⟩:=zuF htb hmay
  refine⟨l1,l2,l3,fun r hr=>?_⟩
  rcases l4 r hr with h|rfl
  ·exact .inl h
  ·exact .inr ⟨hPw,w1,w3⟩
structure AllOk (f:List In4) (t:List TR) (q:(List In4×List TR)×Nat×Bool):Prop where
 sound:zap q.1.1=true
 k:∀ y∈q.1.1,y.k<4294967296
 len:q.1.1.length≤f.length
 run:∀ d:Da,d.ok→(run d q.1.1 St0).1=(run d f St0).1∧((∀ y∈f,y.op≠60)→(run d q.1.1 St0).2≤(run d f St0).2)
 all:AllP f→AllP q.1.1
 tk:TblK q.1.2
 tbl:tblB t=true→tblB q.1.2=true∧t.length≤q.1.2.length∧q.1.2.length≤t.length+q.2.1∧∀ r∈q.1.2,r∈t∨winB r.fr=true∧winB r.to=true∧(decR r.fr r.to r.lv).1=0
theorem zns{tries most:Int}:∀(n:Nat) {f:List In4} {t:List TR},zap f=true→(∀ y∈f,y.k<4294967296)→TblK t→AllOk f t (zaU tries most n f t)
 | 0,f,t,hs,hk,ht=>⟨hs,hk,Nat.le_refl _,fun d _=>⟨rfl,fun _=>Nat.le_refl _⟩,id,ht,fun h=>⟨h,Nat.le_refl _,by simp[zaU],fun r hr=>.inl hr⟩⟩
 | n+1,f,t,hs,hk,ht=>by
  unfold zaU
  cases hr:roundR f t tries most with
  | none=>exact⟨hs,hk,Nat.le_refl _,fun d _=>⟨rfl,fun _=>Nat.le_refl _⟩,id,ht,fun h=>⟨h,Nat.le_refl _,by simp,fun r hr=>.inl hr⟩⟩
  | some q =>
   have k:=zpf hs hk ht hr
   have ih:=zns (tries:=tries) (most:=most) n k.sound k.k k.tk
   simp only[]
   refine⟨ih.sound,ih.k,by have:=ih.len; have:=k.len; simp only; omega,fun d hd=>?_,fun ha=>ih.all (k.all ha),ih.tk,fun htb=>?_⟩
   ·obtain⟨a1,a2⟩:=ih.run d hd
    obtain⟨b1,b2⟩:=k.run d hd
    exact⟨a1.trans b1,fun hn=>Nat.le_trans (a2 (k.divs hn)) (b2 hn)⟩
   ·obtain⟨b1,b2,b3,b4⟩:=k.tbl htb
    obtain⟨a1,a2,a3,a4⟩:=ih.tbl b1
    refine⟨a1,by simp only; omega,by simp only; omega,fun r hr=>?_⟩
    rcases a4 r hr with h|h
    ·exact b4 r h
    ·exact .inr h
theorem zkP{tries most:Int}:∀(n:Nat) {f:List In4} {t:List TR},if(zaU tries most n f t).2.2=true then roundR (zaU tries most n f t).1.1 (zaU tries most n f t).1.2 tries most=none∧0<n else(zaU tries most n f t).2.1=n
 | 0,f,t=>by simp[zaU]
 | n+1,f,t=>by
  unfold zaU
  cases hr:roundR f t tries most with
  | none=>simp[hr]
  | some q =>
   have ih:=zkP (tries:=tries) (most:=most) n (f:=q.1) (t:=q.2)
   simp only[]
   cases h:(zaU tries most n q.1 q.2).2.2 with
   | true =>
    rw[h,if_pos rfl] at ih
    simp[ih.1]
   | false =>
    rw[h] at ih
    simpa using ih
end Go.Ev
/- Bytes of windows: the code. -/
namespace Go.Ev
open Go Go.RowKit
variable {G:Tbl}
theorem zia(a:Nat):za4 .u8 (a:Int)=((a%256:Nat):Int):=by
 unfold za4
 simp[IntKind.wrap,IntKind.bits,IntKind.signed]
def encN(x:In4):List Nat:=[x.op.toNat%256,x.op.toNat/256%256,x.jt.toNat%256,x.jf.toNat%256]++lowL x.k 4
theorem zpg(x:In4):(encN x).length=8:=by simp[encN,lowL]
def zaW(w:List In4):List Nat:=w.flatMap encN
theorem zbC:∀ w:List In4,(zaW w).length=8*w.length
 | []=>rfl
 | x::w=>by rw[zaW,List.flatMap_cons,List.length_append,zpg,←zaW,zbC w,List.length_cons]; omega
theorem zl3(w:List In4)(x:In4):zaW (w++[x])=zaW w++encN x:=by simp[zaW]
theorem zph(w:List In4):encW w=(zaW w).map UInt8.ofNat:=by
 rw[encW,zaW,List.map_flatMap]
 congr 1
theorem znt{x:In4}(h:zaV x=true):(0≤x.op∧x.op≤255)∧(0≤x.jt∧x.jt≤255)∧0≤x.jf∧x.jf≤255:=by
 cases hr:za5 x.op with
 | none=>simp[zaV,hr] at h
 | some r =>
  obtain⟨h1,h2⟩:=zcX hr
  have h3:∀ r∈zaD,0≤r.1∧r.1≤255:=by decide
  have h4:=h3 r h2
  rw[h1] at h4
  refine⟨h4,?_⟩
  rw[zaV,hr] at h
  simp only[Bool.and_eq_true] at h
  obtain⟨_,h⟩:=h
  split at h
  ·simp only[decide_eq_true_eq] at h; omega
  ·simp only[decide_eq_true_eq] at h; omega
theorem zuG[HasIns G][HasEnc G](w:List In4)(hw:w.length≤4096)(hk:∀ x∈w,x.k<4294967296)(hr:∀ x∈w,zaV x=true):FP G 350 [FL w] (.int .i64 0):=by
 refine zak HasEnc.h_codec_check (Nat.le_of_ble_eq_true rfl) ?_
 have h1:((4096:Int)<(w.length:Int))=False:=eq_false (by omega)
 simp[FL,h1]
 refine W_up w.length (fun i=>[(8,FL w),(9,.int .i64 w.length),(10,.int .i64 i)]) (fun _=>[]) (fun _=>True) ?_ ?_
 ·simp[zaa,zad,FL]
 intro i hi _
 by_cases hlt:i<w.length
 ·obtain⟨x,hfx⟩:∃ x,x=w[i]:=⟨_,rfl⟩
  have hgg:=zbg hlt
  rw[←hfx] at hgg
  have hri:=hr x (by rw[hfx]; exact List.getElem_mem hlt)
  have hxl:x.cs.length=4:=rfl
  have hxt:x.cs.take 4=x.cs:=rfl
  simp(disch:=omega)[ltT,FL,hgg,hfx.symm,hxl,hxt]
  refine zab (znE x) ?_
  simp(disch:=omega)[hri,hlt,zag,zaa,zad,-Int.natCast_add]
 ·have hne:i=w.length:=by omega
  subst hne
  simp
theorem znu[HasIns G][HasEnc G](w:List In4)(hw:w.length≤4096)(hk:∀ x∈w,x.k<4294967296)(hr:∀ x∈w,zaV x=true):FP G 351 [FL w] (.tup [.vs (nats .u8 (zaW w)) .no,.int .i64 0]):=by
 refine zak HasEnc.h_codec_Encode (Nat.le_of_ble_eq_true rfl) ?_
 have hck:=zuG (G:=G) w hw hk hr
 simp[FL]
 refine zab hck ?_
 simp
 obtain⟨T,hT⟩:∃ T:Nat→List Nat,∀ j,T j=zaW (w.take j):=⟨_,fun _=>rfl⟩
 have hT0:T 0=[]:=by rw[hT]; rfl
 refine W_up w.length (fun i=>[(5,.vs (nats .u8 (T i)) (.own 0)),(14,FL w),(15,.int .i64 w.length),(16,.int .i64 i)]) (fun i=>[some (.zone (T i).length)]) (fun _=>True) ?_ ?_
 ·simp[zaa,zad,FL,hT0]
 intro i hi _
 by_cases hlt:i<w.length
 ·obtain⟨x,hfx⟩:∃ x,x=w[i]:=⟨_,rfl⟩
  have hgg:=zbg hlt
  rw[←hfx] at hgg
  have hxk:x.k<4294967296:=hk x (by rw[hfx]; exact List.getElem_mem hlt)
  obtain⟨r1,r2,r3⟩:=znt (hr x (by rw[hfx]; exact List.getElem_mem hlt))
  have hTs:T (i+1)=T i++encN x:=by
   rw[hT,hT,List.take_add_one,List.getElem?_eq_getElem hlt,Option.toList_some,zl3,hfx]
  have hTl:(T i).length=8*i:=by rw[hT,zbC,List.length_take]; omega
  obtain⟨o,ho⟩:∃ o:Nat,x.op=o:=⟨x.op.toNat,by omega⟩
  obtain⟨jt,hjt⟩:∃ o:Nat,x.jt=o:=⟨x.jt.toNat,by omega⟩
  obtain⟨jf,hjf⟩:∃ o:Nat,x.jf=o:=⟨x.jf.toNat,by omega⟩
  obtain⟨k,hxk2⟩:∃ k,x.k=k:=⟨_,rfl⟩
  have hcs:x.cs=[.int .i64 o,.int .i64 jt,.int .i64 jf,.int .u32 k]:=by rw[In4.cs,ho,hjt,hjf,hxk2]
  have hen:encN x=[o%256,o/256%256,jt%256,jf%256]++lowL k 4:=by rw[encN,ho,hjt,hjf,hxk2]; rfl
  have hs8:shrI .i64 (o:Int) 8=((o/256:Nat):Int):=zdX (j:=8) (by decide)
  obtain⟨U,hU⟩:∃ U:List Nat,U=T i++[o%256,o/256%256,jt%256,jf%256]:=⟨_,rfl⟩
  have hUl:U.length=8*i+4:=by rw[hU,List.length_append,hTl]; rfl
  have hap:nats .u8 (T i)++[[V.int .u8 (o%256:Nat)],[V.int .u8 (o/256%256:Nat)],[V.int .u8 (jt%256:Nat)],[V.int .u8 (jf%256:Nat)]]=nats .u8 U:=by
   rw[hU]; simp[nats]
  simp(disch:=omega)[ltT,FL,hgg,hfx.symm,hcs,zia,hs8,hap,hTl,hUl,leTn,zaa,-Int.natCast_add,-Int.natCast_ediv,-Int.natCast_emod]
  refine W_up 4 (fun j=>[(5,.vs (nats .u8 (U++lowL k j)) (.own 0)),(7,.ptr 1 0),(14,FL w),(15,.int .i64 w.length),(16,.int .i64 i),(36,.int .i64 j)])
   (fun j=>[some (.zone (8*i+4+j)),some (.cells [.int .i64 o,.int .i64 jt,.int .i64 jf,.int .u32 k]),none]) (fun _=>True) ?_ ?_
  ·have hl0:lowL k 0=[]:=rfl
   simp[zaa,zad,FL,hl0]
  intro j hj _
  by_cases hj4:j<4
  ·have m1:mulI .i64 8 (j:Int)=((8*j:Nat):Int):=by unfold mulI; exact IntWalk.i64_in _ ⟨by omega,by omega⟩
   have m2:shrI .u32 (k:Int) ((8*j:Nat):Int)=((k/256^j:Nat):Int):=by
    rw[ziB (by omega),Nat.pow_mul]
   have m0:(((8*j:Nat):Int)<0)=False:=eq_false (by omega)
   have hls:nats .u8 (U++lowL k j)++[[V.int .u8 (k/256^j%256:Nat)]]=nats .u8 (U++lowL k (j+1)):=by
    rw[zrY]; simp[nats]
   have hll:(U++lowL k j).length=8*i+4+j:=by rw[List.length_append,hUl,zkS]
   simp(disch:=omega)[ltT,m0,m1,m2,zia,hls,hll,leTn,zag,hj4,zaa,zad,FL,-Int.natCast_add,-Int.natCast_mul,-Int.natCast_ediv,-Int.natCast_emod,-Int.natCast_pow]
   omega
  ·have hne:j=4:=by omega
   subst hne
   have hfin:U++lowL k 4=T (i+1):=by rw[hTs,hen,hU,List.append_assoc]
   have hTl2:(T (i+1)).length=8*i+4+4:=by rw[←hfin,List.length_append,hUl,zkS]
   simp(disch:=omega)[hfin,hTl2,hlt,zag,zaa,zad,FL,-Int.natCast_add]
 ·have hne:i=w.length:=by omega
  subst hne
  have:T w.length=zaW w:=by rw[hT,List.take_length]
  simp[this]
end Go.Ev
