/- The assignments that may tell two windows zgx: decide.tries. -/
import Derived.Test.YtogjnjnabikdpaaGreatDoorLiveCW
import Derived.Test.YtogjnjnabikdpaaGreatDoorCheckBW
import Derived.KernelRfl
import Derived.Test.YtogjnjnabikdpaaGreatDoorEvInsCW
set_option linter.unusedSimpArgs false
set_option linter.unusedVariables false
set_option maxHeartbeats 4000000
set_option maxRecDepth 10000
namespace Go.Ev
open Go Go.RowKit
variable {G:Tbl}
def zco(i:Nat):List Nat:=[0,4294967295,1,2147483648,3+7*i,16843009*(i+1),2,65535,1431655765,2863311530*2^(i%3)%4294967296,i%2,i*2654435769%4294967296]
def rowK(k:Nat):List Nat:=(List.range 34).map fun i=>(zco i).getD k 0
theorem zd1(k:Nat):(rowK k).length=34:=by simp[rowK]
theorem zrZ{i:Nat}(hi:i<34):∀ x∈zco i,x<4294967296:=by
 intro x hx
 simp only[zco,List.mem_cons,List.not_mem_nil,or_false] at hx
 rcases hx with rfl|rfl|rfl|rfl|rfl|rfl|rfl|rfl|rfl|rfl|rfl|rfl<;>omega
theorem zvz(k:Nat):∀ x∈rowK k,x<4294967296:=by
 intro x hx
 simp only[rowK,List.mem_map,List.mem_range] at hx
 obtain⟨i,hi,rfl⟩:=hx
 rw[List.getD]
 cases hg:(zco i)[k]? with
 | none=>decide
 | some y=>exact zrZ hi y (List.mem_of_getElem? hg)
def zcE(k i:Nat):List Nat:=(rowK k).take i++zae (34-i)
theorem zhi{k i:Nat}(hi:i≤34):(zcE k i).length=34:=by simp[zcE,zd1]; omega
theorem ztN(k:Nat):zcE k 34=rowK k:=by rw[zcE,List.take_of_length_le (by rw[zd1]; exact Nat.le_refl _)]; simp[zae]
theorem zr0{k i:Nat}(hi:i<34):(zcE k i).set i ((zco i).getD k 0)=zcE k (i+1):=by
 have hg:(rowK k)[i]'(by rw[zd1]; omega)=(zco i).getD k 0:=by simp[rowK]
 rw[zcE,zcE,List.set_append_right _ _ (by rw[List.length_take]; omega),List.length_take,Nat.min_eq_left (by rw[zd1]; omega),Nat.sub_self,List.take_succ_eq_append_getElem (by rw[zd1]; omega),hg,List.append_assoc]
 congr 1
 rw[show 34-i=(34-(i+1))+1 by omega]
 rfl
theorem zwH{a b:Nat}:mulI .u32 (a:Int) (b:Int)=((a*b%4294967296:Nat):Int):=by
 unfold mulI
 rw[←Int.natCast_mul]
 simp only[IntKind.wrap,IntKind.bits,IntKind.signed]
 simp
section
variable {α:Type} {f:Nat→Option α} {hit:α→Bool} {n i:Nat}
theorem zik(h:∀ j<n,∀ r,f j=some r→hit r=false):((List.range n).filterMap f).find? hit=none:=by
 rw[List.find?_eq_none]
 intro r hr
 obtain⟨j,hj,hfr⟩:=List.mem_filterMap.1 hr
 rw[h j (List.mem_range.1 hj) r hfr]; decide
theorem zoh(hi:i<n)(h:∀ j<i,∀ r,f j=some r→hit r=false){r:α}(hr:f i=some r)(hh:hit r=true):((List.range n).filterMap f).find? hit=some r:=by
 obtain⟨m,rfl⟩:∃ m,n=i+(m+1):=⟨n-i-1,by omega⟩
 rw[List.range_add,List.filterMap_append,List.find?_append,zik h,Option.none_or]
 rw[List.range_succ_eq_map,List.map_cons,List.filterMap_cons]
 simp only[Nat.add_zero,hr,List.find?_cons,hh]
end
noncomputable def trA(L:List Nd)(p q:List Int)(live i:Nat):Option (List Nat):=if zdH live i=true∧(apB L (p.getD i 0) (q.getD i 0)).2=true then some (apB L (p.getD i 0) (q.getD i 0)).1 else none
noncomputable def zbr(L:List Nd)(p q:List Int)(live:Nat):List (List Nat):=(List.range 18).filterMap (trA L p q live)++(List.range 12).filterMap fun k=>some (rowK k)
theorem zhj{L:List Nd}{p q:List Int}{live:Nat}{r:List Nat}(h:r∈zbr L p q live):r.length=34∧∀ x∈r,x<4294967296:=by
 rw[zbr,List.mem_append] at h
 rcases h with h|h
 ·obtain⟨j,hj,hfr⟩:=List.mem_filterMap.1 h
  unfold trA at hfr
  split at hfr
  ·cases hfr; exact zqy _ _ _
  ·cases hfr
 ·obtain⟨j,hj,hfr⟩:=List.mem_filterMap.1 h
  cases hfr
  exact⟨zd1 _,zvz _⟩
section
variable {H:Heap} {b z m:Nat} {L:List Nd}
theorem zfX{A X:Heap}{n:Nat}(h:zad n A=A)(hl:A.length=n):zad n (A++X)=A:=by
 unfold zad at h ⊢
 rw[List.take_left' hl]
 rwa[List.take_of_length_le (Nat.le_of_eq hl)] at h
theorem zr1[HasAffApart G][HasAffine G][hA:HasBitsA G][HasSym G][HasSymApart G][HasDecDf G][HasDec G](h:Bk H b z m L)(hi:Inv L){id i1 i2 i3 i4 live:Nat}{p q s t:List Int}(hlv:live<4294967296)
  (h1:H[i1]?=some (some (.cells [.int .u32 live]))) (h2:H[i2]?=some (some (.cells [.ptr b 0]))) (h3:H[i3]?=some (some (.cells (vcs p s .no)))) (h4:H[i4]?=some (some (.cells (vcs q t .no))))
  (hp:p.length=18) (hq:q.length=18) (hid:id<H.length) {hit:List Nat→Bool} {H':List Nat→Heap}
  (hyes:∀ r∈zbr L p q live,hit r=false→∀ X:Heap,(∀ n,X.map (Option.map (Blk.cl n))=X)→YS G id [.agg (zac .u32 r)] (H++X) true (H++X))
  (hno:∀ r∈zbr L p q live,hit r=true→∀ X:Heap,(∀ n,X.map (Option.map (Blk.cl n))=X)→YS G id [.agg (zac .u32 r)] (H++X) false (H' r++X))
  (hl':∀ r∈zbr L p q live,hit r=true→zad H.length (H' r)=H' r∧(H' r).length=H.length) :
  SF G 310 [.yld id,.ptr i1 0,.ptr i2 0,.ptr i3 0,.ptr i4 0] H (.tup []) (match(zbr L p q live).find? hit with|some r=>H' r|none=>H):=by
 refine zbx HasDec.h_decide_tries_1 (Nat.le_of_ble_eq_true rfl) ?_
 have lt1:i1<H.length:=(List.getElem?_eq_some_iff.1 h1).1
 have lt2:i2<H.length:=(List.getElem?_eq_some_iff.1 h2).1
 have lt3:i3<H.length:=(List.getElem?_eq_some_iff.1 h3).1
 have lt4:i4<H.length:=(List.getElem?_eq_some_iff.1 h4).1
 have hself:=h.shut.self
 have hback:=h.shut.back
 have hbl:=h.lb
 have g1:=(List.getElem?_eq_some_iff.1 h1).2
 have g2:=(List.getElem?_eq_some_iff.1 h2).2
 have g3:=(List.getElem?_eq_some_iff.1 h3).2
 have g4:=(List.getElem?_eq_some_iff.1 h4).2
 have e1:∀ X:Heap,(H++X)[i1]?=some (some (.cells [.int .u32 live])):=fun X=>by rw[List.getElem?_append_left lt1]; exact h1
 have e2:∀ X:Heap,(H++X)[i2]?=some (some (.cells [.ptr b 0])):=fun X=>by rw[List.getElem?_append_left lt2]; exact h2
 have e3:∀ X:Heap,(H++X)[i3]?=some (some (.cells (vcs p s .no))):=fun X=>by rw[List.getElem?_append_left lt3]; exact h3
 have e4:∀ X:Heap,(H++X)[i4]?=some (some (.cells (vcs q t .no))):=fun X=>by rw[List.getElem?_append_left lt4]; exact h4
 have e1':∀(X:Heap) h,(H++X)[i1]'h=some (.cells [.int .u32 live]):=fun X h=>(List.getElem?_eq_some_iff.1 (e1 X)).2
 have e2':∀(X:Heap) h,(H++X)[i2]'h=some (.cells [.ptr b 0]):=fun X h=>(List.getElem?_eq_some_iff.1 (e2 X)).2
 have e3':∀(X:Heap) h,(H++X)[i3]'h=some (.cells (vcs p s .no)):=fun X h=>(List.getElem?_eq_some_iff.1 (e3 X)).2
 have e4':∀(X:Heap) h,(H++X)[i4]'h=some (.cells (vcs q t .no)):=fun X h=>(List.getElem?_eq_some_iff.1 (e4 X)).2
 have k0:∀(r:Heap) x,(H++r).set H.length x=H++r.set 0 x:=fun r x=>zbT rfl x
 have kk:∀ r:Heap,(H++r)[H.length]?=r[0]?:=fun r=>apn0 rfl
 have lp:=zen (st:=s) (tk:=.no) hp
 have lq:=zen (st:=t) (tk:=.no) hq
 have hBn:Bk (H++[none]) b z m L:=h.app fun n=>by simp
 have hmap:H.map (Option.map (Blk.cl H.length))=H:=by
  have:=hself
  unfold zad at this
  rwa[List.take_of_length_le (Nat.le_refl _)] at this
 simp
 refine W_up 18 (fun i=>[(0,.yld id),(1,.ptr i1 0),(2,.ptr i2 0),(3,.ptr i3 0),(4,.ptr i4 0),(12,.int .i64 i)]) (fun _=>H) (fun i=>∀ j<i,∀ r,trA L p q live j=some r→hit r=false) ?_ ?_
 ·simp[zaa,hself,hid,lt1,lt2,lt3,lt4]
 intro i hi' hP
 by_cases hlt:i<18
 ·have hin:=zrs (G:=G) live i hlv (by omega)
  simp(disch:=omega)[ltT,hlt,h1,g1]
  refine zab hin ?_
  cases hb:zdH live i with
  | false =>
   have hP':∀ j<i+1,∀ r,trA L p q live j=some r→hit r=false:=fun j hj r hr=>by
    rcases Nat.lt_succ_iff_lt_or_eq.1 hj with h|rfl
    ·exact hP j h r hr
    ·simp[trA,hb] at hr
   simp(disch:=omega)[ltT,hlt,zag,zaa,hself,hid,lt1,lt2,lt3,lt4,-Int.natCast_add]
   exact hP'
  | true =>
   obtain⟨x,hx⟩:∃ x,x=p.getD i 0:=⟨_,rfl⟩
   obtain⟨y,hy⟩:∃ y,y=q.getD i 0:=⟨_,rfl⟩
   have gx:x=p[i]'(by omega):=by rw[hx]; simp[List.getD,List.getElem?_eq_getElem (show i<p.length by omega)]
   have gy:y=q[i]'(by omega):=by rw[hy]; simp[List.getD,List.getElem?_eq_getElem (show i<q.length by omega)]
   have vx:=ze7 (p:=p) (st:=s) (tk:=.no) hp hlt
   have vy:=ze7 (p:=q) (st:=t) (tk:=.no) hq hlt
   rw[←gx] at vx
   rw[←gy] at vy
   have hap:=zwb (G:=G) x y hBn hi
   have hal:=zqy L x y
   have hR:trA L p q live i=if(apB L x y).2=true then some (apB L x y).1 else none:=by rw[hx,hy]; simp[trA,hb]
   obtain⟨r,hr⟩:∃ r,r=(apB L x y).1:=⟨_,rfl⟩
   obtain⟨ok,hok⟩:∃ ok,ok=(apB L x y).2:=⟨_,rfl⟩
   rw[←hr,←hok] at hap hR
   rw[←hr] at hal
   have rt:=zai (k:=.u32) hal.1
   have rd:(zac .u32 r).drop 34=[]:=List.drop_eq_nil_of_le (by simp[hal.1])
   simp(disch:=omega)[ltT,leTn,leFn,hlt,zaa,e1,e2,e3,e4,e1',e2',e3',e4',lp,lq,vx,vy,hself,hid,lt1,lt2,lt3,lt4]
   refine zsM hap ⟨?_,?_,rfl⟩ ?_
   ·intro v hv
    simp only[List.mem_cons,List.not_mem_nil,or_false] at hv
    rcases hv with rfl|rfl|rfl<;>simp[V.cl,hbl]
   ·simp only[List.map_append,hmap,List.map_cons,List.map_nil,Option.map_none]
   simp(disch:=omega)[k0,kk,hal.1,rt,rd]
   have htr:ok=true→r∈zbr L p q live:=fun h=>by
    rw[zbr,List.mem_append]
    exact .inl (List.mem_filterMap.2 ⟨i,List.mem_range.2 hlt,by rw[hR,if_pos h]⟩)
   have hP1:(∀ r',trA L p q live i=some r'→hit r'=false)→∀ j<i+1,∀ r,trA L p q live j=some r→hit r=false:=fun h0 j hj r hr=>by
    rcases Nat.lt_succ_iff_lt_or_eq.1 hj with h|rfl
    ·exact hP j h r hr
    ·exact h0 r hr
   cases ok with
   | false =>
    have:=hP1 fun r' h=>by rw[hR] at h; cases h
    simp(disch:=omega)[hlt,zag,zaa,hself,hback,hid,lt1,lt2,lt3,lt4,-Int.natCast_add]
    exact this
   | true =>
    have hXc:∀ n,([some (Blk.cells (zac .u32 r))]:Heap).map (Option.map (Blk.cl n))=[some (Blk.cells (zac .u32 r))]:=fun n=>by simp[Blk.cl]
    simp(disch:=omega)[hlt,zaa,hid,lt1,lt2,lt3,lt4,kk,hal.1,rt]
    cases hh:hit r with
    | false =>
     refine zcA (hyes r (htr rfl) hh _ hXc) ?_
     have:=hP1 fun r' h=>by rw[hR,if_pos rfl] at h; cases h; exact hh
     simp(disch:=omega)[hlt,zag,zaa,hself,hback,hid,lt1,lt2,lt3,lt4,-Int.natCast_add]
     exact this
    | true =>
     refine zcA (hno r (htr rfl) hh _ hXc) ?_
     obtain⟨hl1,hl2⟩:=hl' r (htr rfl) hh
     have hf:=zoh hlt hP (by rw[hR,if_pos rfl]) hh
     have hfin:(zbr L p q live).find? hit=some r:=by rw[zbr,List.find?_append,hf]; rfl
     simp[hfin,zfX hl1 hl2]
 ·have hne:i=18:=by omega
  subst hne
  have hA:=zik hP
  simp
  refine W_up 12 (fun k=>[(0,.yld id),(40,.int .u32 k)]) (fun _=>H) (fun k=>∀ j<k,∀ r,(some (rowK j):Option (List Nat))=some r→hit r=false) ?_ ?_
  ·simp[zaa,hself,hid]
  intro k hk hP2
  by_cases hlt2:k<12
  ·have hz34:[V.int .u32 0,.int .u32 0]=[V.int .u32 0,.int .u32 0]:=rfl
   have hs:∀ i,zad (H.length+1) (H++[some (.cells (zac .u32 (zcE k i)))])=H++[some (.cells (zac .u32 (zcE k i)))]:=fun i=>by
    have:=(h.app (r:=[some (.cells (zac .u32 (zcE k i)))]) fun n=>by simp[Blk.cl]).shut.self
    simpa using this
   simp(disch:=omega)[ltT,hlt2,kk,k0]
   refine W_up 34 (fun i=>[(0,.yld id),(9,.int .u32 k),(10,.ptr H.length 0),(40,.int .u32 k),(43,.int .i64 i)]) (fun i=>H++[some (.cells (zac .u32 (zcE k i)))]) (fun _=>True) ?_ ?_
   ·have:=hs 0
    rw[show zcE k 0=zae 34 by simp[zcE]] at this
    simp[zaa,this,zcE,show id<H.length+1 by omega]
   intro i hi _
   by_cases hlt3:i<34
   ·have r3:remI (i:Int) 3=((i%3:Nat):Int):=zkd (b:=3)
    have r2:remI (i:Int) 2=((i%2:Nat):Int):=zkd (b:=2)
    have r3n:(((i%3:Nat):Int)<0)=False:=eq_false (by omega)
    have s3:shlI .u32 2863311530 ((i%3:Nat):Int)=((2863311530*2^(i%3)%4294967296:Nat):Int):=znW (a:=2863311530) (by omega)
    have c1:za4 .u32 (i:Int)=(i:Int):=za9 (by omega)
    have c2:za4 .u32 ((i+1:Nat):Int)=((i+1:Nat):Int):=za9 (by omega)
    have c3:za4 .u32 ((i%2:Nat):Int)=((i%2:Nat):Int):=za9 (by omega)
    have m1:mulI .u32 7 (i:Int)=((7*i:Nat):Int):=ztg (a:=7) (by omega)
    have a1:addI .u32 3 ((7*i:Nat):Int)=((3+7*i:Nat):Int):=by
     unfold addI
     rw[show(3:Int)+((7*i:Nat):Int)=((3+7*i:Nat):Int) by omega]
     exact za9 (by omega)
    have m2:mulI .u32 16843009 ((i+1:Nat):Int)=((16843009*(i+1):Nat):Int):=ztg (a:=16843009) (by omega)
    have m3:mulI .u32 (i:Int) 2654435769=((i*2654435769%4294967296:Nat):Int):=zwH (b:=2654435769)
    have hc:∀ n9:Nat,n9=2863311530*2^(i%3)%4294967296→∀ n11:Nat,n11=i*2654435769%4294967296→[V.int .u32 0,.int .u32 4294967295,.int .u32 1,.int .u32 2147483648,.int .u32 ((3+7*i:Nat):Int),.int .u32 ((16843009*(i+1):Nat):Int),.int .u32 2,.int .u32 65535,.int .u32 1431655765,.int .u32 (n9:Int),.int .u32 ((i%2:Nat):Int),.int .u32 (n11:Int)]=zac .u32 (zco i):=by
     rintro n9 rfl n11 rfl
     rfl
    obtain⟨n9,hn9⟩:∃ n9,n9=2863311530*2^(i%3)%4294967296:=⟨_,rfl⟩
    obtain⟨n11,hn11⟩:∃ n11,n11=i*2654435769%4294967296:=⟨_,rfl⟩
    have hc:=hc n9 hn9 n11 hn11
    rw[←hn9] at s3
    rw[←hn11] at m3
    have hz12:zac .u32 (zae 12)=[V.int .u32 0,.int .u32 0,.int .u32 0,.int .u32 0,.int .u32 0,.int .u32 0,.int .u32 0,.int .u32 0,.int .u32 0,.int .u32 0,.int .u32 0,.int .u32 0]:=rfl
    have lc:(zco i).length=12:=rfl
    have cg:=zaT .u32 (zco i) k (by rw[lc]; exact hlt2)
    have hce:(zco i)[k]'(by rw[lc]; exact hlt2)=(zco i).getD k 0:=by simp[List.getD,List.getElem?_eq_getElem (show k<(zco i).length from hlt2)]
    rw[hce] at cg
    have hst:=zbq .u32 (zcE k i) i ((zco i).getD k 0) (by rw[zhi hi]; exact hlt3)
    rw[zr0 hlt3] at hst
    obtain⟨cv,hcv⟩:∃ cv,cv=(zco i).getD k 0:=⟨_,rfl⟩
    rw[←hcv] at cg hst
    simp(disch:=omega)[ltT,hlt3,kk,k0,zhi hi,r3,r2,r3n,s3,c1,zag,c2,c3,m1,a1,m2,m3,hz12,-Int.natCast_add,-Int.natCast_mul,-Int.natCast_emod]
    have lr:=zhi hi (k:=k)
    have lr':=zhi (show i+1≤34 from hlt3) (k:=k)
    rw[hc,cg]
    simp(disch:=omega)[ltT,leTn,hlt3,show k≤11 by omega,kk,k0,lr,hst,hs,zaa,zag,show id<H.length+1 by omega,-Int.natCast_add]
   ·have hne:i=34:=by omega
    subst hne
    have hXc:∀ n,([some (Blk.cells (zac .u32 (rowK k)))]:Heap).map (Option.map (Blk.cl n))=[some (Blk.cells (zac .u32 (rowK k)))]:=fun n=>by simp[Blk.cl]
    have hmem:rowK k∈zbr L p q live:=by
     rw[zbr,List.mem_append]
     exact .inr (List.mem_filterMap.2 ⟨k,List.mem_range.2 hlt2,rfl⟩)
    have rl:=zd1 k
    have rt:=zai (k:=.u32) rl
    have ck:addI .u32 (k:Int) 1=((k+1:Nat):Int):=by
     unfold addI
     rw[show(k:Int)+1=((k+1:Nat):Int) by omega]
     exact za9 (by omega)
    simp[ztN,kk,rl,rt]
    cases hh:hit (rowK k) with
    | false =>
     refine zcA (hyes _ hmem hh _ hXc) ?_
     have hP3:∀ j<k+1,∀ r,(some (rowK j):Option (List Nat))=some r→hit r=false:=fun j hj r hr=>by
      rcases Nat.lt_succ_iff_lt_or_eq.1 hj with h|rfl
      ·exact hP2 j h r hr
      ·cases hr; exact hh
     simp(disch:=omega)[hlt2,ck,zaa,hself,hback,hid,-Int.natCast_add]
     simpa using hP3
    | true =>
     refine zcA (hno _ hmem hh _ hXc) ?_
     obtain⟨hl1,hl2⟩:=hl' _ hmem hh
     have hB:=zoh hlt2 hP2 rfl hh
     have hfin:(zbr L p q live).find? hit=some (rowK k):=by rw[zbr,List.find?_append,hA,hB]; rfl
     simp[hfin,zfX hl1 hl2]
  ·have hne:k=12:=by omega
   subst hne
   have hB:=zik hP2
   have hfin:(zbr L p q live).find? hit=none:=by rw[zbr,List.find?_append,hA,hB]; rfl
   simp[hfin,hself]
end
end Go.Ev
/- Whether values and stops are one: decide.same. -/
namespace Go.Ev
open Go Go.RowKit
variable {G:Tbl}
def zcI(p q:List Int)(live i:Nat):Bool:=zdH live i&&(p.getD i 0 !=q.getD i 0)
def zcp(p q s t:List Int)(live:Nat):Bool:=!((List.range 18).any (zcI p q live))&&decide (s=t)
theorem zja{p q s t:List Int}{live:Nat}:zcp p q s t live=true↔(∀ i<18,zcI p q live i=false)∧s=t:=by
 simp[zcp]
theorem zr2{p q s t:List Int}{live i:Nat}(hi:i<18)(h:zcI p q live i=true):zcp p q s t live=false:=by
 have:(List.range 18).any (zcI p q live)=true:=List.any_eq_true.2 ⟨i,List.mem_range.2 hi,h⟩
 simp only[zcp,this,Bool.not_true,Bool.false_and]
theorem zm0{p q s t:List Int}{live:Nat}(h:s≠t):zcp p q s t live=false:=by simp[zcp,h]
theorem zvA[HasDecDf G][HasDec G](p q s t:List Int)(live:Nat)(hlv:live<4294967296)(hp:p.length=18)(hq:q.length=18)(hs:s.length≤1000000) :
  FP G 309 [.agg (vcs p s .no),.agg (vcs q t .no),.int .u32 live] (.bool (zcp p q s t live)):=by
 refine zak HasDec.h_decide_same (Nat.le_of_ble_eq_true rfl) ?_
 have lp:=zen (st:=s) (tk:=.no) hp
 have lq:=zen (st:=t) (tk:=.no) hq
 have cp:∀ n,clL n (vcs p s .no)=vcs p s .no:=fun n=>by rw[zav,vcs]; simp[za8,Function.comp_def,V.cl,Tk.cl]
 have cq:∀ n,clL n (vcs q t .no)=vcs q t .no:=fun n=>by rw[zav,vcs]; simp[za8,Function.comp_def,V.cl,Tk.cl]
 have np:(vcs p s .no).map V.nf1=vcs p s .no:=by simp[vcs,za8,Function.comp_def,V.nf1]
 have nq:(vcs q t .no).map V.nf1=vcs q t .no:=by simp[vcs,za8,Function.comp_def,V.nf1]
 have sp:=zn9 (st:=s) (tk:=.no) hp
 have sq:=zn9 (st:=t) (tk:=.no) hq
 obtain⟨P,hP⟩:∃ P,P=vcs p s .no:=⟨_,rfl⟩
 obtain⟨Q,hQ⟩:∃ Q,Q=vcs q t .no:=⟨_,rfl⟩
 simp only[←hP,←hQ] at lp lq cp cq np nq sp sq ⊢
 simp[np,nq]
 refine W_up 18 (fun i=>[(2,.int .u32 live),(3,.ptr 0 0),(4,.ptr 1 0),(10,.int .i64 i)]) (fun _=>[some (.cells P),some (.cells Q)]) (fun i=>∀ j<i,zcI p q live j=false) ?_ ?_
 ·simp[zaa,zad,cp,cq]
 intro i hi hP1
 by_cases hlt:i<18
 ·have hin:=zrs (G:=G) live i hlv (by omega)
  obtain⟨x,hx⟩:∃ x,x=p.getD i 0:=⟨_,rfl⟩
  obtain⟨y,hy⟩:∃ y,y=q.getD i 0:=⟨_,rfl⟩
  have gx:x=p[i]'(by omega):=by rw[hx]; simp[List.getD,List.getElem?_eq_getElem (show i<p.length by omega)]
  have gy:y=q[i]'(by omega):=by rw[hy]; simp[List.getD,List.getElem?_eq_getElem (show i<q.length by omega)]
  have vx:=ze7 (p:=p) (st:=s) (tk:=.no) hp hlt
  have vy:=ze7 (p:=q) (st:=t) (tk:=.no) hq hlt
  rw[←gx,←hP] at vx
  rw[←gy,←hQ] at vy
  have hnd:zcI p q live i=(zdH live i&&(x !=y)):=by rw[hx,hy]; rfl
  have hP2:zcI p q live i=false→∀ j<i+1,zcI p q live j=false:=fun h0 j hj=>by
   rcases Nat.lt_succ_iff_lt_or_eq.1 hj with h|rfl
   ·exact hP1 j h
   ·exact h0
  simp(disch:=omega)[ltT,hlt]
  refine zab hin ?_
  cases hb:zdH live i with
  | false =>
   rw[hb,Bool.false_and] at hnd
   simp(disch:=omega)[ltT,hlt,zag,zaa,zad,cp,cq,-Int.natCast_add]
   exact hP2 hnd
  | true =>
   rw[hb,Bool.true_and] at hnd
   by_cases hxy:x=y
   ·have hn:zcI p q live i=false:=by rw[hnd,hxy]; simp
    simp(disch:=omega)[ltT,leTn,lp,lq,vx,vy,hxy,hlt,zag,zaa,zad,cp,cq,-Int.natCast_add]
    exact hP2 hn
   ·have hn:zcI p q live i=true:=by rw[hnd]; simp[hxy]
    simp(disch:=omega)[ltT,leTn,lp,lq,vx,vy,bneT hxy,hxy,hlt,zr2 hlt hn]
 ·have hne:i=18:=by omega
  subst hne
  simp[lp,lq,sp,sq,zaa]
  by_cases hl:s.length=t.length
  ·simp[hl,lp,lq,sp,sq,zaa]
   refine W_up s.length (fun i=>[(4,.ptr 1 0),(36,.vs (ints .i64 s) .no),(37,.int .i64 s.length),(38,.int .i64 i)]) (fun _=>[some (.cells P),some (.cells Q)]) (fun i=>s.take i=t.take i) ?_ ?_
   ·simp[zaa,zad,cp,cq,hl]
   intro i hi hT
   by_cases hlt:i<s.length
   ·have g1:(ints .i64 s)[i]?=some [.int .i64 s[i]]:=by simp[hlt]
    have g2:(ints .i64 t)[i]?=some [.int .i64 (t[i]'(by omega))]:=by simp[show i<t.length by omega]
    obtain⟨x,hx⟩:∃ x,x=s[i]:=⟨_,rfl⟩
    obtain⟨y,hy⟩:∃ y,y=t[i]'(by omega):=⟨_,rfl⟩
    rw[←hx] at g1
    rw[←hy] at g2
    have hx:=hx.symm
    have hy:=hy.symm
    by_cases hxy:x=y
    ·have hT':s.take (i+1)=t.take (i+1):=by
      rw[List.take_add_one,List.take_add_one,hT,List.getElem?_eq_getElem hlt,List.getElem?_eq_getElem (show i<t.length by omega),hx,hy,hxy]
     simp(disch:=omega)[ltT,hlt,hl,lp,lq,sp,sq,g1,g2,hx,hy,hxy,zag,zaa,zad,cp,cq,hT',show i<t.length by omega,-Int.natCast_add]
    ·have hne:s≠t:=by
      rintro rfl
      exact hxy (hx.symm.trans hy)
     simp(disch:=omega)[ltT,hlt,hl,lp,lq,sp,sq,g1,g2,hx,hy,bneT hxy,hxy,zm0 hne]
   ·have hne:i=s.length:=by omega
    subst hne
    rw[List.take_length,hl,List.take_length] at hT
    simp[zja.2 ⟨hP1,hT⟩]
  ·have hne:s≠t:=fun h=>hl (by rw[h])
   have hne':((s.length:Int) !=(t.length:Int))=true:=bneT (by omega)
   simp[hl,hne',zm0 hne]
end Go.Ev
/- Ranges over functions whose contracts speak of memory. -/
namespace Go.Ev
open Go Go.RowKit
variable {G:Tbl}
mutual
theorem V.cl_cl{n m:Nat}(h:n≤m):∀ v:V,(v.cl m).cl n=v.cl n
 | .ptr id off=>by
  by_cases h1:id<m
  ·simp only[V.cl,if_pos h1]
  ·simp only[V.cl,if_neg h1,if_neg (show¬id<n by omega)]
 | .rs id off k sz=>by
  by_cases h1:id<m
  ·simp only[V.cl,if_pos h1]
  ·simp only[V.cl,if_neg h1,if_neg (show¬id<n by omega)]
 | .mp id=>by
  by_cases h1:id<m
  ·simp only[V.cl,if_pos h1]
  ·simp only[V.cl,if_neg h1,if_neg (show¬id<n by omega)]
 | .yld id=>by
  by_cases h1:id<m
  ·simp only[V.cl,if_pos h1]
  ·simp only[V.cl,if_neg h1,if_neg (show¬id<n by omega)]
 | .vs es tk=>by
  simp only[V.cl]
  cases tk with
  | own q =>
   by_cases h1:q<m
   ·simp only[Tk.cl,if_pos h1]
   ·simp only[Tk.cl,if_neg h1,if_neg (show¬q<n by omega)]
  | no=>rfl
  | full=>rfl
 | .fn f cap=>by simp only[V.cl,zgG h cap]
 | .agg cs=>by simp only[V.cl,zgG h cs]
 | .tup cs=>by simp only[V.cl,zgG h cs]
 | .undef=>rfl
 | .skp=>rfl
 | .any=>rfl
 | .int _ _=>rfl
 | .bool _=>rfl
 | .str _=>rfl
 | .nilp=>rfl
 | .cptr _=>rfl
 | .nilf=>rfl
 | .nilm=>rfl
theorem zgG{n m:Nat}(h:n≤m):∀ cs:List V,clL n (clL m cs)=clL n cs
 | []=>rfl
 | c::cs=>by simp only[clL,V.cl_cl h c,zgG h cs]
end
theorem Blk.cl_cl{n m:Nat}(h:n≤m)(b:Blk):(b.cl m).cl n=b.cl n:=by
 cases b with
 | cells cs=>simp only[Blk.cl,zgG h]
 | zone k=>rfl
 | froz cs=>simp only[Blk.cl,zgG h]
 | map es=>simp only[Blk.cl,List.map_map]; congr 1; exact List.map_congr_left fun p _=>by simp only[Function.comp,V.cl_cl h]
 | siter s pos=>rfl
 | loop e0 ps as bo st=>simp only[Blk.cl,List.map_map]; congr 1; exact List.map_congr_left fun p _=>by simp only[Function.comp,V.cl_cl h]
theorem zpx{n m:Nat}(h:n≤m)(H:Heap):zad n (zad m H)=zad n H:=by
 unfold zad
 rw[←List.map_take,List.map_map,List.take_take,Nat.min_eq_left h]
 exact List.map_congr_left fun b _=>by cases b with
  | none=>rfl
  | some b=>simp only[Function.comp,Option.map_some,Blk.cl_cl h]
theorem znJ{H1:Heap}{n k:Nat}{e0:List (Nat×V)}{ps:List Nat}{as bo:SCode}{st:LSt}(h:(zad n H1)[k]?=some (some (.loop e0 ps as bo st))):∃ e1,H1[k]?=some (some (.loop e1 ps as bo st)):=by
 unfold zad at h
 rw[List.getElem?_map] at h
 by_cases hk:k<n
 ·rw[List.getElem?_take_of_lt hk] at h
  cases hg:H1[k]? with
  | none=>rw[hg] at h; cases h
  | some b =>
   rw[hg] at h
   cases b with
   | none=>simp at h
   | some b =>
    cases b<;>simp[Blk.cl] at h
    obtain⟨_,rfl,rfl,rfl,rfl⟩:=h
    exact⟨_,rfl⟩
 ·rw[List.getElem?_take_eq_none (by omega)] at h; cases h
theorem zeH{f:Nat}{cap:List V}{l ps:List Nat}{as bo:SCode}{r:V}{H H2:Heap}{e0:List (Nat×V)}{ps':List Nat}{as' bo':SCode}{st:LSt}{x:Ex}{K:List Kt}{e:Env}{Q:Ex→Env→Heap→Prop}
  (h:SF G f (.yld H.length::cap) (H++[some (.loop (look e l) ps as bo .ready)]) r H2)
  (hb:H2[H.length]?=some (some (.loop e0 ps' as' bo' st))) (hst:st=.ready∧x=.nx∨st=.done x∧x≠.nx) (hr:Wr G x K e (zad H.length H2) Q):zoH G (.fn f cap) l ps as bo K e H Q:=by
 obtain⟨r1,H1,hbig,_,ht⟩:=h
 rw[←ht] at hb
 obtain⟨e1,he1⟩:=znJ hb
 refine zsy hbig he1 hst ?_
 rw[←ht,zpx (by simp)] at hr
 exact hr
end Go.Ev
/- One try of decide.Decide. -/
namespace Go.Ev
open Go Go.RowKit
variable {G:Tbl}
def ansC(c:Int):Option (List Nat)→List V
 | some r=>.int .i64 c::((stO r).cs++(ofW (r.drop 18)).cs)
 | none=>.int .i64 c::(zac .u32 (zae 20)++zac .u64 (zae 7))
def zb0:SCode:=.region 1 [⟨some 13,.alloc 0 (zac .u32 (zae 34)),none⟩,⟨none,.store 34 (.t 13) (.t 46),none⟩]
def zb1:SCode:=.block 1 (.seq (.region 2 [⟨some 48,.load 34 true false (.t 13),none⟩,⟨some 49,.pcall 294 [.t 48],none⟩,⟨some 47,.mv (.t 49),none⟩,⟨some 50,.ext 0 (.t 47),none⟩,⟨some 51,.ext 1 (.t 47),none⟩,⟨some 14,.alloc 0 (zac .u32 (zae 18)),none⟩,
 ⟨some 15,.alloc 1 [.int .u32 0,.int .u32 0,.int .u64 0,.int .u64 0,.int .u64 0,.int .u64 0,.int .u64 0,.int .u64 0,.int .u64 0],none⟩,⟨none,.store 18 (.t 14) (.t 50),none⟩,⟨none,.store 9 (.t 15) (.t 51),none⟩])
 (.seq (.keep [3,4,5,6,7,14,15]) (.seq (.region 0 [⟨some 52,.load 1 false false (.t 3),none⟩,⟨some 53,.load 1 false false (.t 4),none⟩,⟨some 54,.load 1 false false (.t 5),none⟩,⟨some 55,.load 18 true false (.t 14),none⟩,⟨some 56,.load 9 true false (.t 15),none⟩,
  ⟨some 57,.pcall 308 [.t 52,.t 53,.t 54,.t 55,.t 56],none⟩]) (.seq (.keep [6,7,14,15,57]) (.cond (.t 57) (.seq (.region 0 [⟨some 58,.load 18 true false (.t 14),none⟩,⟨some 59,.load 9 true false (.t 15),none⟩,
   ⟨some 60,.build (ansC 0 none) [(0,1,.c (.int .i64 1)),(1,18,.t 58),(19,9,.t 59)],none⟩,⟨none,.store 28 (.t 6) (.t 60),none⟩,⟨none,.store 1 (.t 7) (.c (.int .i64 0)),none⟩]) .ret) .skip)))))
def tryE:List (Nat×V):=[(3,.ptr 0 0),(4,.ptr 1 0),(5,.ptr 2 0),(6,.ptr 3 0),(7,.ptr 4 0)]
structure TryH (N:Heap) (v w:List In4) (live:Nat):Prop where
 b0:N[0]?=some (some (.cells [.vs (IL v) .no]))
 b1:N[1]?=some (some (.cells [.vs (IL w) .no]))
 b2:N[2]?=some (some (.cells [.int .u32 live]))
 b3:N[3]?=some (some (.cells (ansC 0 none)))
 b4:N[4]?=some (some (.cells [.int .i64 0]))
 lo:N[14]?=some (some (.loop tryE [46] zb0 zb1 .ready))
 shut:zba N
theorem TryH.app{N:Heap}{v w:List In4}{live:Nat}(h:TryH N v w live){X:Heap}(hX:∀ n,X.map (Option.map (Blk.cl n))=X):TryH (N++X) v w live:=by
 have lt:=(List.getElem?_eq_some_iff.1 h.lo).1
 refine⟨?_,?_,?_,?_,?_,?_,h.shut.app hX⟩
 all_goals rw[List.getElem?_append_left (by omega)]
 ·exact h.b0
 ·exact h.b1
 ·exact h.b2
 ·exact h.b3
 ·exact h.b4
 ·exact h.lo
def hitH(N:Heap)(r:List Nat):Heap:=((N.set 3 (some (.cells (ansC 1 (some r))))).set 4 (some (.cells [.int .i64 0]))).set 14 (some (.loop tryE [46] zb0 zb1 (.done .ret)))
theorem ztO{N X:Heap}{r:List Nat}(h:14<N.length):hitH (N++X) r=hitH N r++X:=by
 unfold hitH
 rw[List.set_append_left _ _ (by omega),List.set_append_left _ _ (by simp; omega),List.set_append_left _ _ (by simp; omega)]
theorem zjb{N:Heap}(h:zba N)(hl:14<N.length)(r:List Nat):zba (hitH N r):=by
 intro m hm
 have hm':N.length≤m:=by simpa[hitH] using hm
 have ha:clL m (ansC 1 (some r))=ansC 1 (some r):=by simp[ansC,zav,V.cl,St.cs,Da.cs,zac,Function.comp_def]
 unfold hitH
 rw[List.map_set,List.map_set,List.map_set,h m hm']
 have hle:(Blk.loop tryE [46] zb0 zb1 (.done .ret)).cl m=.loop tryE [46] zb0 zb1 (.done .ret):=by
  simp[Blk.cl,tryE,V.cl,show 0<m by omega,show 1<m by omega,show 2<m by omega,show 3<m by omega,show 4<m by omega]
 have hla:(Blk.cells (ansC 1 (some r))).cl m=.cells (ansC 1 (some r)):=by rw[Blk.cl,ha]
 have hl4:(Blk.cells [V.int .i64 0]).cl m=.cells [.int .i64 0]:=by simp[Blk.cl,clL,V.cl]
 simp only[Option.map_some,hle,hla,hl4]
theorem zr3[HasWd G][HasNeg G][HasIns G][HasCheck G][HasData G][HasWith G][HasStep G][HasWRight G][HasWinRun G][HasWinAsg G][HasWinState G][HasDecDf G]
  {N:Heap} {v w:List In4} {live:Nat} (h:TryH N v w live) (hf:v.length≤maxLen) (hg:w.length≤maxLen) (hk:∀ x∈v,x.k<4294967296) (hkw:∀ x∈w,x.k<4294967296) (hlv:live<4294967296)
  (hv:winB v=true) (hw:winB w=true) {r:List Nat} (hr:r.length=34) (hr':∀ x∈r,x<4294967296) {t:Bool} (ht:zcw v w live (stO r) (ofW (r.drop 18))=t) :
  YS G 14 [.agg (zac .u32 r)] N (!t) (if t=true then hitH N r else N):=by
 have lt:=(List.getElem?_eq_some_iff.1 h.lo).1
 obtain⟨b,H',hy,rfl,rfl⟩:=zvd (R:=fun b H'=>b=(!t)∧H'=if t=true then hitH N r else N) (G:=G) (args:=[.agg (zac .u32 r)]) h.lo rfl (by
  have rt:=zai (k:=.u32) hr
  have rd:(zac .u32 r).drop 34=[]:=List.drop_eq_nil_of_le (by simp[hr])
  have kk:∀ r:Heap,(N++r)[N.length]?=r[0]?:=fun r=>apn0 rfl
  have k0:∀(r:Heap) x,(N++r).set N.length x=N++r.set 0 x:=fun r x=>zbT rfl x
  have l14:∀ r:Heap,(N++r)[14]?=some (some (.loop tryE [46] zb0 zb1 .ready)):=fun r=>by rw[List.getElem?_append_left lt]; exact h.lo
  simp[zb0,tryE,putP,kk,k0,hr,rt,rd]
  refine⟨_,_,_,_,l14 _,?_⟩
  obtain⟨B,hB⟩:∃ B,B=N.set 14 (some (.loop tryE [46] zb0 zb1 .busy)):=⟨_,rfl⟩
  have nB:B.length=N.length:=by rw[hB]; simp
  rw[List.set_append_left _ _ lt,←hB]
  have bk0:∀ r:Heap,(B++r)[N.length]?=r[0]?:=fun r=>apn0 nB
  have bk1:∀ r:Heap,(B++r)[N.length+1]?=r[1]?:=fun r=>apnk nB 1
  have bk2:∀ r:Heap,(B++r)[N.length+2]?=r[2]?:=fun r=>apnk nB 2
  have bs1:∀(r:Heap) x,(B++r).set (N.length+1) x=B++r.set 1 x:=fun r x=>zcD nB 1 x
  have bs2:∀(r:Heap) x,(B++r).set (N.length+2) x=B++r.set 2 x:=fun r x=>zcD nB 2 x
  have bk2':∀ r:Heap,(B++r)[N.length+1+1]?=r[2]?:=bk2
  have bs2':∀(r:Heap) x,(B++r).set (N.length+1+1) x=B++r.set 2 x:=bs2
  have g2:∀(a b c:Option Blk) (r:Heap) h,(B++a::b::c::r)[N.length+1+1]'h=c:=fun a b c r h=>(List.getElem?_eq_some_iff.1 (bk2 (a::b::c::r))).2
  have look:∀{p:Nat} {c:List V},N[p]?=some (some (.cells c))→p≠14→∀ r:Heap,(B++r)[p]?=some (some (.cells c)):=fun{p c} hp hne r=>by
   rw[List.getElem?_append_left (by rw[nB]; exact(List.getElem?_eq_some_iff.1 hp).1),hB,List.getElem?_set_ne (Ne.symm hne)]; exact hp
  have q0:=look h.b0 (by decide)
  have q1:=look h.b1 (by decide)
  have q2:=look h.b2 (by decide)
  have q3:=look h.b3 (by decide)
  have q0':∀(r:Heap) h,(B++r)[0]'h=some (.cells [.vs (IL v) .no]):=fun r h=>(List.getElem?_eq_some_iff.1 (q0 r)).2
  have q1':∀(r:Heap) h,(B++r)[1]'h=some (.cells [.vs (IL w) .no]):=fun r h=>(List.getElem?_eq_some_iff.1 (q1 r)).2
  have q2':∀(r:Heap) h,(B++r)[2]'h=some (.cells [.int .u32 live]):=fun r h=>(List.getElem?_eq_some_iff.1 (q2 r)).2
  have q3':∀(r:Heap) h,(B++r)[3]'h=some (.cells (ansC 0 none)):=fun r h=>(List.getElem?_eq_some_iff.1 (q3 r)).2
  have hso:=zo2 hr hr'
  have hdo:=zjI (w:=r.drop 18) (by simp[hr]) (fun x hx=>hr' x (List.mem_of_mem_drop hx))
  have hst:=zpO (G:=G) r hr hr'
  have hdi:=zrt (G:=G) v w live (stO r) (ofW (r.drop 18)) hf hg hk hkw hlv hso hdo
  rw[hv,hw,ht] at hdi
  have sl:=zh9 hso
  have dl:=zkl hdo
  have hans:ansC 1 (some r)=.int .i64 1::((stO r).cs++(ofW (r.drop 18)).cs):=rfl
  obtain⟨S,hS⟩:∃ S,S=(stO r).cs:=⟨_,rfl⟩
  obtain⟨D,hD⟩:∃ D,D=(ofW (r.drop 18)).cs:=⟨_,rfl⟩
  have Sk:∀ n,clL n S=S:=fun n=>by rw[hS]; exact cs_cl _ n
  have Dk:∀ n,clL n D=D:=fun n=>by rw[hD]; exact zdU _ n
  have Sn:S.map V.nf1=S:=by rw[hS]; exact ziO _
  have Dn:D.map V.nf1=D:=by rw[hD]; exact zhd _
  simp only[FL,SV,DV,Bool.true_and] at hst hdi
  rw[←hS,←hD] at hst hdi hans
  rw[←hS] at sl
  rw[←hD] at dl
  have St:=List.take_of_length_le (i:=18) (l:=S) (by omega)
  have Dt:=List.take_of_length_le (i:=9) (l:=D) (by omega)
  have Sd:S.drop 18=[]:=List.drop_eq_nil_of_le (by omega)
  have Dd:D.drop 9=[]:=List.drop_eq_nil_of_le (by omega)
  obtain⟨A0,hA0⟩:∃ A0,A0=ansC 0 none:=⟨_,rfl⟩
  have lA0:A0.length=28:=by rw[hA0]; rfl
  simp only[←hA0] at q3 q3'
  simp[zb1,nB,bk0,bk1,bk2,bs1,bs2,hr,rt,rd,←hA0]
  refine zab hst ?_
  simp[nB,bk0,bk1,bk2,bs1,bs2,sl,dl,St,Dt,Sd,Dd,Sk,Dk,Sn,Dn,q0,q1,q2,q3,q0',q1',q2',q3',zaa]
  simp[nB,bk0,bk1,bk2,bk2',g2,bs1,bs2,bs2',sl,dl,St,Dt,Sd,Dd,Sk,Dk,Sn,Dn,q0,q1,q2,q3,q0',q1',q2',q3',zaa]
  refine zab hdi ?_
  have B14:∀ r:Heap,(B++r)[14]?=some (some (.loop tryE [46] zb0 zb1 .busy)):=fun r=>by
   rw[List.getElem?_append_left (by omega),hB,List.getElem?_set_self (by omega)]
  cases t with
  | false =>
   have fin0:∀ r:Heap,zad N.length ((B++r).set 14 (some (.loop tryE [46] zb0 zb1 .ready)))=N:=fun r=>by
    rw[List.set_append_left _ _ (by omega),hB,List.set_set,zeh h.lo]
    exact h.shut.back r
   simp
   exact⟨_,_,_,_,B14 _,fin0 _⟩
  | true =>
   simp[nB,bk0,bk1,bk2,bk2',g2,bs1,bs2,bs2',sl,dl,St,Dt,Sd,Dd,Sk,Dk,Sn,Dn,q0,q1,q2,q3,q0',q1',q2',q3',zaa]
   have dr:(S++A0.drop 19).drop 27=[]:=List.drop_eq_nil_of_le (by simp; omega)
   have ln:(V.int .i64 1::(S++D)).length=28:=by simp; omega
   have tn:(S++D).take 27=S++D:=List.take_of_length_le (by simp; omega)
   have dn:A0.drop 28=[]:=List.drop_eq_nil_of_le (by omega)
   have q4:=look h.b4 (by decide)
   have ts3:∀(r:Heap) x,(B++r).set 3 x=B.set 3 x++r:=fun r x=>List.set_append_left _ _ (by omega)
   have ts4:∀(r:Heap) y x,(B.set 3 y++r).set 4 x=(B.set 3 y).set 4 x++r:=fun r y x=>List.set_append_left _ _ (by simp; omega)
   have tg4':∀(r:Heap) y,(B.set 3 y++r)[4]?=some (some (.cells [.int .i64 0])):=fun r y=>by
    have:=q4 []
    rw[List.getElem?_append_left (by simp; omega),List.getElem?_set_ne (by decide)]
    simpa using this
   have tg4'':∀(r:Heap) y h,(B.set 3 y++r)[4]'h=some (.cells [.int .i64 0]):=fun r y h=>(List.getElem?_eq_some_iff.1 (tg4' r y)).2
   simp[lA0,dr,dn,tn,nB,sl,dl,q3,q3',ts3,ts4,tg4',tg4'',St,Sd,Dt,Dd]
   refine⟨tryE,[46],zb0,zb1,?_,?_⟩
   ·have:=B14 []
    rw[List.append_nil] at this
    rw[List.getElem?_append_left (by simp; omega),List.getElem?_set_ne (by decide),List.getElem?_set_ne (by decide)]
    exact this
   ·have he:((B.set 3 (some (Blk.cells (V.int IntKind.i64 1::(S++D))))).set 4 (some (Blk.cells [V.int IntKind.i64 0]))).set 14 (some (.loop tryE [46] zb0 zb1 (.done .ret)))=hitH N r:=by
     rw[hB,←hans,List.set_comm _ _ (show(14:Nat)≠3 by decide),List.set_comm _ _ (show(14:Nat)≠4 by decide),List.set_set]
     rfl
    rw[List.set_append_left _ _ (by simp; omega),he]
    have:=(zjb h.shut lt r).back [some (Blk.cells (zac .u32 r)),some (Blk.cells S),some (Blk.cells D)]
    rwa[show(hitH N r).length=N.length by simp[hitH]] at this)
 exact hy
end Go.Ev
/- decide.Decide. -/
namespace Go.Ev
open Go Go.RowKit
variable {G:Tbl}
noncomputable def decR(v w:List In4)(live:Nat):Int×Option (List Nat) :=
 if(winB v&&winB w)=true then
  if zcp (winV [] v).p (winV (winV [] v).L w).p (winV [] v).st (winV (winV [] v).L w).st live=true then(0,none)
  else match(zbr (winV (winV [] v).L w).L (winV [] v).p (winV (winV [] v).L w).p live).find? fun r=>zcw v w live (stO r) (ofW (r.drop 18)) with
   | some r=>(1,some r)
   | none=>(2,none)
 else(0,none)
def znN(a b c d e:List V):Heap:=[some (.cells a),some (.cells b),some (.cells c),some (.cells d),some (.cells e),some (.map []),some (.cells [.vs [] (.own 7),.mp 5]),some (.zone 0)]
theorem ztP{a b c d e:List V}(ha:∀ n,clL n a=a)(hb:∀ n,clL n b=b)(hc:∀ n,clL n c=c)(hd:∀ n,clL n d=d)(he:∀ n,clL n e=e):Bk (znN a b c d e) 6 7 5 []:=by
 refine⟨rfl,rfl,rfl,fun n hn=>?_,fun a h=>(by cases h),by decide⟩
 simp only[znN,List.length_cons,List.length_nil] at hn
 simp[znN,Blk.cl,ha,hb,hc,hd,he,clL,V.cl,Tk.cl,show 7<n by omega,show 5<n by omega]
theorem zvB[HasSymNew G](a b c d e:List V):Big G (.F 256 [] [some (.cells a),some (.cells b),some (.cells c),some (.cells d),some (.cells e)] (.ptr 6 0) [some (.cells a),some (.cells b),some (.cells c),some (.cells d),some (.cells e),some (.map []),some (.cells [.vs [] .full,.mp 5])]):=by
 refine F_of HasSymNew.h_sym_New (Nat.le_of_ble_eq_true rfl) ?_
 simp
section
variable {H:Heap} {b z m:Nat} {L:List Nd}
noncomputable def ofC(L:List Nd)(w:List In4):List V:=if winB w=true then vcs (winV L w).p (winV L w).st .no else vcs (List.replicate 18 0) [] .full
noncomputable def ofL(L:List Nd)(w:List In4):List Nd:=if winB w=true then(winV L w).L else L
theorem zoi[HasWd G][HasNeg G][HasIns G][HasCheck G][HasWRight G][HasAffine G][HasBits G][HasSym G][HasWinOf G](w:List In4)(h:Bk H b z m L)(hi:Inv L)(hs:L.length≤800000)(hf:w.length≤maxLen)(hk:∀ x∈w,x.k<4294967296) :
  SF G 296 [.ptr b 0,FL w] H (.tup [.agg (ofC L w),.bool (winB w)]) (upd H b z m (ofL L w)):=by
 cases hw:winB w with
 | true =>
  have:=zxJ (G:=G) w h hi hs hf hk hw
  simpa only[ofC,ofL,hw,if_true] using this
 | false =>
  have:=zxI (G:=G) w h hf hk hw
  simpa only[ofC,ofL,hw,Bool.false_eq_true,if_false,h.upd_self] using this
theorem zme(hi:Inv L){w:List In4}(hk:∀ x∈w,x.k<4294967296):(ofC L w).length=19:=by
 unfold ofC
 split
 ·exact zen (zcH hi w hk).len
 ·rfl
theorem zoj(w:List In4)(n:Nat):clL n (ofC L w)=ofC L w:=by
 unfold ofC
 split<;>(rw[zav,vcs]; simp[za8,Function.comp_def,V.cl,Tk.cl])
theorem zp3(hi:Inv L){w:List In4}(hk:∀ x∈w,x.k<4294967296):Inv (ofL L w):=by
 unfold ofL
 split
 ·exact(zcH hi w hk).ext.inv
 ·exact hi
theorem zp4(hi:Inv L){w:List In4}(hk:∀ x∈w,x.k<4294967296):(ofL L w).length≤L.length+114:=by
 unfold ofL
 split
 ·rename_i hw
  have hw32:w.length≤32:=by simp only[winB,Bool.and_eq_true,decide_eq_true_eq] at hw; exact hw.1
  have:=(zcH hi w hk).ext.len
  omega
 ·omega
end
theorem zkU(c:Int):(ansC c none).length=28:=rfl
theorem zhZ(c:Int)(o:Option (List Nat))(n:Nat):clL n (ansC c o)=ansC c o:=by cases o<;>simp[ansC,zav,V.cl,St.cs,Da.cs,zac,Function.comp_def]
theorem zp5(c:Int)(o:Option (List Nat)):(ansC c o).map V.nf1=ansC c o:=by cases o<;>simp[ansC,V.nf1,St.cs,Da.cs,zac,Function.comp_def]
theorem zr4(c:Int):(ansC c none).take 28=ansC c none:=List.take_of_length_le (by rw[zkU]; exact Nat.le_refl _)
theorem zr5(c:Int):(ansC c none).drop 28=[]:=List.drop_eq_nil_of_le (by rw[zkU]; exact Nat.le_refl _)
theorem zvC[HasDec G](H:Heap)(b live:Nat)(X1 X2:List V)(k1:∀ n,clL n X1=X1)(k2:∀ n,clL n X2=X2)(m1:X1.map V.nf1=X1)(m2:X2.map V.nf1=X2) :
  Big G (.F 311 [.ptr b 0,.agg X1,.agg X2,.int .u32 live] H (.fn 310 [.ptr (H.length+3) 0,.ptr H.length 0,.ptr (H.length+1) 0,.ptr (H.length+2) 0])
   (H++[some (.cells [.ptr b 0]),some (.cells X1),some (.cells X2),some (.cells [.int .u32 live])])):=by
 refine F_of HasDec.h_decide_tries (Nat.le_of_ble_eq_true rfl) ?_
 simp[m1,m2,ap0,apk,set0,setk]
theorem zjc[HasWd G][HasNeg G][HasIns G][HasCheck G][HasData G][HasWith G][HasStep G][HasWRight G][HasWinRun G][HasWinAsg G][HasWinState G][HasWinOf G][HasAffApart G][HasAffine G][hBA:HasBitsA G][HasSymNew G][HasSym G][HasSymApart G][HasDecDf G][HasDec G]
  (v w:List In4) (live:Nat) (hf:v.length≤maxLen) (hg:w.length≤maxLen) (hk:∀ x∈v,x.k<4294967296) (hkw:∀ x∈w,x.k<4294967296) (hlv:live<4294967296) :
  FP G 312 [FL v,FL w,.int .u32 live] (.tup [.agg (ansC (decR v w live).1 (decR v w live).2),.int .i64 (if(winB v&&winB w)=true then 0 else 1)]):=by
 haveI:HasBits G:=hBA.toHasBits
 refine zak HasDec.h_decide_Decide (Nat.le_of_ble_eq_true rfl) ?_
 obtain⟨Z,hZ⟩:∃ Z:List V,Z=vcs (List.replicate 18 0) [] .full:=⟨_,rfl⟩
 have lZ:Z.length=19:=by rw[hZ]; rfl
 have drop19:Z.drop 19=[]:=List.drop_eq_nil_of_le (by omega)
 have hZz:[V.int .i64 0,.int .i64 0,.int .i64 0,.int .i64 0,.int .i64 0,.int .i64 0,.int .i64 0,.int .i64 0,.int .i64 0,.int .i64 0,.int .i64 0,.int .i64 0,.int .i64 0,.int .i64 0,.int .i64 0,.int .i64 0,.int .i64 0,.int .i64 0,.vs [] .full]=Z:=by rw[hZ]; rfl
 obtain⟨A0,hA0⟩:∃ A0:List V,A0=ansC 0 none:=⟨_,rfl⟩
 have hA0z:V.int .i64 0::(zac .u32 (zae 20)++zac .u64 (zae 7))=A0:=by rw[hA0]; rfl
 have lA0:A0.length=28:=by rw[hA0]; rfl
 have kA0:∀ n,clL n A0=A0:=fun n=>by rw[hA0]; simp[ansC,zav,V.cl,zac,Function.comp_def]
 have hB:=ztP (a:=[.vs (IL v) .no]) (b:=[.vs (IL w) .no]) (c:=[.int .u32 live]) (d:=A0) (e:=[.int .i64 0]) (fun n=>by simp[clL,V.cl,Tk.cl]) (fun n=>by simp[clL,V.cl,Tk.cl]) (fun n=>by simp[clL,V.cl]) kA0 (fun n=>by simp[clL,V.cl])
 obtain⟨H0,hH0⟩:∃ H0,H0=znN [.vs (IL v) .no] [.vs (IL w) .no] [.int .u32 live] A0 [.int .i64 0]:=⟨_,rfl⟩
 rw[←hH0] at hB
 have n0:H0.length=8:=by rw[hH0]; rfl
 have t0:∀ r,zad 8 (H0++r)=H0:=fun r=>by have:=hB.shut.back r; rwa[n0] at this
 have a8:∀ r:Heap,(H0++r)[8]?=r[0]?:=fun r=>apn0 n0
 have a9:∀ r:Heap,(H0++r)[9]?=r[1]?:=fun r=>apnk n0 1
 have b8:∀(r:Heap) x,(H0++r).set 8 x=H0++r.set 0 x:=fun r x=>zbT n0 x
 have b9:∀(r:Heap) x,(H0++r).set 9 x=H0++r.set 1 x:=fun r x=>zcD n0 1 x
 have o0:∀ r:Heap,(H0++r)[0]?=some (some (.cells [.vs (IL v) .no])):=fun r=>by rw[hH0]; rfl
 have o1:∀ r:Heap,(H0++r)[1]?=some (some (.cells [.vs (IL w) .no])):=fun r=>by rw[hH0]; rfl
 have o3:∀ r:Heap,(H0++r)[3]?=some (some (.cells A0)):=fun r=>by rw[hH0]; rfl
 have o4:∀ r:Heap,(H0++r)[4]?=some (some (.cells [.int .i64 0])):=fun r=>by rw[hH0]; rfl
 have hBn:Bk (H0++[none]) 6 7 5 []:=hB.app fun n=>by simp
 simp[FL,hA0z]
 refine zha (zvB [.vs (IL v) .no] [.vs (IL w) .no] [.int .u32 live] A0 [.int .i64 0]) (by simp) ?_
 simp
 rw[show([some (.cells [.vs (IL v) .no]),some (.cells [.vs (IL w) .no]),some (.cells [.int .u32 live]),some (.cells A0),some (.cells [.int .i64 0]),some (.map []),some (.cells [.vs [] (.own 7),.mp 5]),some (.zone 0),none]:Heap)=H0++[none] from by rw[hH0]; rfl]
 obtain⟨L1,hL1⟩:∃ L1,L1=ofL [] v:=⟨_,rfl⟩
 obtain⟨X1,hX1⟩:∃ X1,X1=ofC [] v:=⟨_,rfl⟩
 have i1:Inv L1:=by rw[hL1]; exact zp3 Inv.nil hk
 have z1:L1.length≤114:=by rw[hL1]; simpa using zp4 Inv.nil hk
 have x1:X1.length=19:=by rw[hX1]; exact zme Inv.nil hk
 have c1:∀ n,clL n X1=X1:=fun n=>by rw[hX1]; exact zoj v n
 have hof:=zoi (G:=G) v hBn Inv.nil (by decide) hf hk
 rw[←hL1,←hX1,hB.upd_app] at hof
 obtain⟨U,hU⟩:∃ U,U=upd H0 6 7 5 L1:=⟨_,rfl⟩
 have hUB:Bk U 6 7 5 L1:=by rw[hU]; exact hB.to i1 (by omega)
 rw[←hU] at hof
 have nU:U.length=8:=by rw[hU,zbe,n0]
 have keepU:∀{p:Nat} {c:List V},(H0++[])[p]?=some (some (.cells c))→p≠6→U[p]?=some (some (.cells c)):=fun{p c} hp hne=>by
  rw[hU]; exact znv hB (by simpa using hp) hne
 obtain⟨L2,hL2⟩:∃ L2,L2=ofL L1 w:=⟨_,rfl⟩
 obtain⟨X2,hX2⟩:∃ X2,X2=ofC L1 w:=⟨_,rfl⟩
 have i2:Inv L2:=by rw[hL2]; exact zp3 i1 hkw
 have z2:L2.length≤228:=by rw[hL2]; have:=zp4 i1 hkw; omega
 have x2:X2.length=19:=by rw[hX2]; exact zme i1 hkw
 have c2:∀ n,clL n X2=X2:=fun n=>by rw[hX2]; exact zoj w n
 have hUX:Bk (U++[some (.cells X1),none]) 6 7 5 L1:=hUB.app fun n=>by simp[Blk.cl,c1]
 have hof2:=zoi (G:=G) w hUX i1 (by omega) hg hkw
 rw[←hL2,←hX2,hUB.upd_app] at hof2
 obtain⟨T,hT⟩:∃ T,T=upd U 6 7 5 L2:=⟨_,rfl⟩
 have hTB:Bk T 6 7 5 L2:=by rw[hT]; exact hUB.to i2 (by omega)
 rw[←hT] at hof2
 have nT:T.length=8:=by rw[hT,zbe,nU]
 have keepT:∀{p:Nat} {c:List V},(H0++[])[p]?=some (some (.cells c))→p≠6→T[p]?=some (some (.cells c)):=fun{p c} hp hne=>by
  rw[hT]; exact znv hUB (keepU hp hne) hne
 have apl:∀{A:Heap} {p:Nat} {c:List V},A[p]?=some (some (.cells c))→∀ r:Heap,(A++r)[p]?=some (some (.cells c)):=fun{A p c} hp r=>by
  rw[List.getElem?_append_left (List.getElem?_eq_some_iff.1 hp).1]; exact hp
 have u1:=apl (keepU (o1 []) (by decide))
 have u1':∀(r:Heap) h,(U++r)[1]'h=some (.cells [.vs (IL w) .no]):=fun r h=>(List.getElem?_eq_some_iff.1 (u1 r)).2
 have q0:=apl (keepT (o0 []) (by decide))
 have q1:=apl (keepT (o1 []) (by decide))
 have q2:=apl (keepT (c:=[.int .u32 live]) (p:=2) (by rw[hH0]; rfl) (by decide))
 have q3:=apl (keepT (o3 []) (by decide))
 have q4:=apl (keepT (o4 []) (by decide))
 have q0':∀(r:Heap) h,(T++r)[0]'h=some (.cells [.vs (IL v) .no]):=fun r h=>(List.getElem?_eq_some_iff.1 (q0 r)).2
 have q1':∀(r:Heap) h,(T++r)[1]'h=some (.cells [.vs (IL w) .no]):=fun r h=>(List.getElem?_eq_some_iff.1 (q1 r)).2
 have q2':∀(r:Heap) h,(T++r)[2]'h=some (.cells [.int .u32 live]):=fun r h=>(List.getElem?_eq_some_iff.1 (q2 r)).2
 have q3':∀(r:Heap) h,(T++r)[3]'h=some (.cells A0):=fun r h=>(List.getElem?_eq_some_iff.1 (q3 r)).2
 have q4':∀(r:Heap) h,(T++r)[4]'h=some (.cells [.int .i64 0]):=fun r h=>(List.getElem?_eq_some_iff.1 (q4 r)).2
 have ua8:∀ r:Heap,(U++r)[8]?=r[0]?:=fun r=>apn0 nU
 have ua9:∀ r:Heap,(U++r)[9]?=r[1]?:=fun r=>apnk nU 1
 have ub8:∀(r:Heap) x,(U++r).set 8 x=U++r.set 0 x:=fun r x=>zbT nU x
 have ub9:∀(r:Heap) x,(U++r).set 9 x=U++r.set 1 x:=fun r x=>zcD nU 1 x
 have ta8:∀ r:Heap,(T++r)[8]?=r[0]?:=fun r=>apn0 nT
 have ta9:∀ r:Heap,(T++r)[9]?=r[1]?:=fun r=>apnk nT 1
 have tb8:∀(r:Heap) x,(T++r).set 8 x=T++r.set 0 x:=fun r x=>zbT nT x
 have tb9:∀(r:Heap) x,(T++r).set 9 x=T++r.set 1 x:=fun r x=>zcD nT 1 x
 have d1:X1.drop 19=[]:=List.drop_eq_nil_of_le (by omega)
 have d2:X2.drop 19=[]:=List.drop_eq_nil_of_le (by omega)
 have e1:X1.take 19=X1:=List.take_of_length_le (by omega)
 have e2:X2.take 19=X2:=List.take_of_length_le (by omega)
 simp only[FL] at hof hof2
 refine zah hof ?_
 simp[nU,ua8,ub8,hZz,lZ,drop19,x1,d1,e1,u1,u1']
 refine zah hof2 ?_
 simp[nT,ta8,ta9,tb8,tb9,hZz,lZ,drop19,x1,d1,e1,x2,d2,e2,zaa]
 have hlt:∀ p,p<8→p<T.length:=fun p hp=>by omega
 have ts3:∀(r:Heap) x,(T++r).set 3 x=T.set 3 x++r:=fun r x=>List.set_append_left _ _ (by omega)
 have ts4:∀(r:Heap) y x,(T.set 3 y++r).set 4 x=(T.set 3 y).set 4 x++r:=fun r y x=>List.set_append_left _ _ (by simp; omega)
 have tg3:∀(r:Heap) y x,((T.set 3 y).set 4 x++r)[3]?=some y:=fun r y x=>by
  rw[List.getElem?_append_left (by simp; omega),List.getElem?_set_ne (by decide),List.getElem?_set_self (by omega)]
 have tg4:∀(r:Heap) y x,((T.set 3 y).set 4 x++r)[4]?=some x:=fun r y x=>by
  rw[List.getElem?_append_left (by simp; omega),List.getElem?_set_self (by simp; omega)]
 have tg4':∀(r:Heap) y,(T.set 3 y++r)[4]?=some (some (.cells [.int .i64 0])):=fun r y=>by
  have:=q4 []
  rw[List.getElem?_append_left (by simp; omega),List.getElem?_set_ne (by decide)]
  simpa using this
 have tg4'':∀(r:Heap) y h,(T.set 3 y++r)[4]'h=some (.cells [.int .i64 0]):=fun r y h=>(List.getElem?_eq_some_iff.1 (tg4' r y)).2
 have tg3n:∀(r:Heap) y x h,((T.set 3 y).set 4 x++r)[3]'h=y:=fun r y x h=>(List.getElem?_eq_some_iff.1 (tg3 r y x)).2
 have tg4n:∀(r:Heap) y x h,((T.set 3 y).set 4 x++r)[4]'h=x:=fun r y x h=>(List.getElem?_eq_some_iff.1 (tg4 r y x)).2
 have A28:A0.take 28=A0:=List.take_of_length_le (by omega)
 have D28:A0.drop 28=[]:=List.drop_eq_nil_of_le (by omega)
 have nA0:A0.map V.nf1=A0:=by rw[hA0]; simp[ansC,zac,Function.comp_def,V.nf1]
 cases hv:winB v with
 | false =>
  have hd:decR v w live=(0,none):=by simp[decR,hv]
  simp[hd,←hA0,nT,q3,q3',lA0,ts3,ts4,A28,D28,tg3,tg4,tg4',tg4'',tg3n,tg4n,zaa,kA0,nA0]
 | true =>
 cases hw:winB w with
 | false =>
  have hd:decR v w live=(0,none):=by simp[decR,hv,hw]
  simp[hd,←hA0,nT,q3,q3',lA0,ts3,ts4,A28,D28,tg3,tg4,tg4',tg4'',tg3n,tg4n,zaa,kA0,nA0]
 | true =>
 have hXv:X1=vcs (winV [] v).p (winV [] v).st .no:=by rw[hX1,ofC,if_pos hv]
 have hLv:L1=(winV [] v).L:=by rw[hL1,ofL,if_pos hv]
 have hXw:X2=vcs (winV L1 w).p (winV L1 w).st .no:=by rw[hX2,ofC,if_pos hw]
 have hLw:L2=(winV L1 w).L:=by rw[hL2,ofL,if_pos hw]
 have k1:=zcH Inv.nil v hk
 have k2:=zcH i1 w hkw
 have hD:decR v w live=decR v w live:=rfl
 conv at hD=>rhs; rw[decR,hv,hw,if_pos (show(true&&true)=true from rfl),←hLv,←hLw]
 obtain⟨P,hP⟩:∃ P,P=(winV [] v).p:=⟨_,rfl⟩
 obtain⟨S,hS⟩:∃ S,S=(winV [] v).st:=⟨_,rfl⟩
 obtain⟨Q,hQ⟩:∃ Q,Q=(winV L1 w).p:=⟨_,rfl⟩
 obtain⟨R,hR⟩:∃ R,R=(winV L1 w).st:=⟨_,rfl⟩
 have pl:P.length=18:=by rw[hP]; exact k1.len
 have ql:Q.length=18:=by rw[hQ]; exact k2.len
 have sl:S.length≤1000000:=by
  have hw32:v.length≤32:=by simp only[winB,Bool.and_eq_true,decide_eq_true_eq] at hv; exact hv.1
  have:=k1.st
  rw[hS]; omega
 rw[←hP,←hQ,←hS,←hR] at hD
 rw[←hP,←hS] at hXv
 rw[←hQ,←hR] at hXw
 have hsa:=zvA (G:=G) P Q S R live hlv pl ql sl
 rw[←hXv,←hXw] at hsa
 have m1:X1.map V.nf1=X1:=by rw[hXv]; simp[vcs,za8,Function.comp_def,V.nf1]
 have m2:X2.map V.nf1=X2:=by rw[hXw]; simp[vcs,za8,Function.comp_def,V.nf1]
 simp[nT,q2,q2',ta8,ta9,x1,x2,e1,e2,zaa,m1,m2,c1,c2]
 refine zab hsa ?_
 cases hsm:zcp P Q S R live with
 | true =>
  rw[hsm,if_pos rfl] at hD
  have At:V.int .i64 0::A0.tail=A0:=by rw[hA0]; rfl
  simp[hD,←hA0,nT,q3,q3',lA0,ts3,ts4,A28,D28,tg3,tg4,tg4',tg4'',tg3n,tg4n,zaa,kA0,nA0,At]
 | false =>
  rw[hsm] at hD
  simp only[Bool.false_eq_true,if_false] at hD
  simp[nT,q2,q2',ta8,ta9,x1,x2,e1,e2,zaa,m1,m2,c1,c2]
  have n10:(T++[some (Blk.cells X1),some (Blk.cells X2)]).length=10:=by simp[nT]
  have htr:=zvC (G:=G) (T++[some (Blk.cells X1),some (Blk.cells X2)]) 6 live X1 X2 c1 c2 m1 m2
  rw[n10,List.append_assoc] at htr
  refine zha htr (by simp) ?_
  simp
  subst hA0
  obtain⟨E,hE⟩:∃ E,E=T++[some (Blk.cells X1),some (Blk.cells X2),some (.cells [.ptr 6 0]),some (.cells X1),some (.cells X2),some (.cells [.int .u32 live])]:=⟨_,rfl⟩
  have nE:E.length=14:=by rw[hE]; simp[nT]
  obtain⟨HH,hHH⟩:∃ HH,HH=E++[some (Blk.loop tryE [46] zb0 zb1 .ready)]:=⟨_,rfl⟩
  have nHH:HH.length=15:=by rw[hHH]; simp[nE]
  have hHT:HH=T++[some (Blk.cells X1),some (Blk.cells X2),some (.cells [.ptr 6 0]),some (.cells X1),some (.cells X2),some (.cells [.int .u32 live]),some (Blk.loop tryE [46] zb0 zb1 .ready)]:=by rw[hHH,hE]; simp
  have hBE:Bk E 6 7 5 L2:=by
   rw[hE]
   refine hTB.app2 fun n hn=>?_
   simp[nT] at hn
   simp[Blk.cl,c1,c2,clL,V.cl,show 6<n by omega]
  have hBH:Bk HH 6 7 5 L2:=by
   rw[hHH]
   refine hBE.app2 fun n hn=>?_
   simp[nE] at hn
   simp[Blk.cl,tryE,V.cl,show 0<n by omega,show 1<n by omega,show 2<n by omega,show 3<n by omega,show 4<n by omega]
  have h14:HH[14]?=some (some (.loop tryE [46] zb0 zb1 .ready)):=by rw[hHH]; exact apn0 nE
  have hTH:TryH HH v w live:=⟨by rw[hHT]; exact q0 _,by rw[hHT]; exact q1 _,by rw[hHT]; exact q2 _,by rw[hHT]; exact q3 _,by rw[hHT]; exact q4 _,h14,hBH.shut⟩
  have h10:HH[10]?=some (some (.cells [.ptr 6 0])):=by rw[hHT]; exact apnk nT 2
  have h11:HH[11]?=some (some (.cells (vcs P S .no))):=by rw[hHT,←hXv]; exact apnk nT 3
  have h12:HH[12]?=some (some (.cells (vcs Q R .no))):=by rw[hHT,←hXw]; exact apnk nT 4
  have h13:HH[13]?=some (some (.cells [.int .u32 live])):=by rw[hHT]; exact apnk nT 5
  have htt:=zr1 (G:=G) hBH i2 (id:=14) (i1:=13) (i2:=10) (i3:=11) (i4:=12) (live:=live) hlv h13 h10 h11 h12 pl ql (by omega) (hit:=fun r=>zcw v w live (stO r) (ofW (r.drop 18))) (H':=hitH HH)
   (fun r hr hh X hX=>by
    obtain⟨hr1,hr2⟩:=zhj hr
    have:=zr3 (G:=G) (hTH.app hX) hf hg hk hkw hlv hv hw hr1 hr2 hh
    simpa using this)
   (fun r hr hh X hX=>by
    obtain⟨hr1,hr2⟩:=zhj hr
    have:=zr3 (G:=G) (hTH.app hX) hf hg hk hkw hlv hv hw hr1 hr2 hh
    rw[ztO (by omega)] at this
    simpa using this)
   (fun r hr hh=>⟨by
    have:=(zjb hBH.shut (by omega) r).self
    rwa[show(hitH HH r).length=HH.length by simp[hitH]] at this,by simp[hitH]⟩)
  rw[←hE]
  have hbE:=hBE.shut.self
  rw[nE] at hbE
  have hlk:look (mkE [(3,V.ptr 0 0),(4,V.ptr 1 0),(5,V.ptr 2 0),(6,V.ptr 3 0),(7,V.ptr 4 0),(45,V.fn 310 [V.ptr 13 0,V.ptr 10 0,V.ptr 11 0,V.ptr 12 0])]) [3,4,5,6,7]=tryE:=by simp[tryE]
  cases hfd:(zbr L2 P Q live).find? (fun r=>zcw v w live (stO r) (ofW (r.drop 18))) with
  | none =>
   rw[hfd] at htt hD
   have htE:zad 14 HH=E:=by rw[hHH]; have:=hBE.shut.back [some (Blk.loop tryE [46] zb0 zb1 .ready)]; rwa[nE] at this
   refine zeH (as:=zb0) (bo:=zb1) (x:=.nx) (H2:=HH) (r:=.tup []) ?_ (by rw[nE]; exact h14) (.inl ⟨rfl,rfl⟩) ?_
   ·rw[nE]
    rw[hHH] at htt
    rw[hHH,hlk]
    exact htt
   rw[nE,htE,hE]
   simp only[] at hD
   have At:∀ c,V.int .i64 c::(ansC 0 none).tail=ansC c none:=fun c=>rfl
   simp[hD,nT,q3,q3',lA0,ts3,ts4,A28,D28,tg3,tg4,tg4',tg4'',tg3n,tg4n,zaa,kA0,nA0,At,zkU,zhZ,zp5,zr4,zr5]
  | some r =>
   rw[hfd] at htt hD
   obtain⟨hr1,hr2⟩:=zhj (List.mem_of_find?_eq_some hfd)
   have lA:(ansC 1 (some r)).length=28:=by
    have h1:=zh9 (zo2 hr1 hr2)
    have h2:=zkl (zjI (w:=r.drop 18) (by simp[hr1]) (fun x hx=>hr2 x (List.mem_of_mem_drop hx)))
    simp only[ansC,List.length_cons,List.length_append,h1,h2]
   obtain⟨A1,hA1⟩:∃ A1,A1=ansC 1 (some r):=⟨_,rfl⟩
   have kA1:∀ n,clL n A1=A1:=fun n=>by rw[hA1]; exact zhZ _ _ n
   have nA1:A1.map V.nf1=A1:=by rw[hA1]; exact zp5 _ _
   rw[←hA1] at lA
   have tA1:A1.take 28=A1:=List.take_of_length_le (by omega)
   have hEE:hitH HH r=((T.set 3 (some (.cells A1))).set 4 (some (.cells [.int .i64 0])))++[some (Blk.cells X1),some (Blk.cells X2),some (.cells [.ptr 6 0]),some (.cells X1),some (.cells X2),some (.cells [.int .u32 live]),some (.loop tryE [46] zb0 zb1 (.done .ret))]:=by
    rw[hHT,hitH,←hA1,ts3,ts4]
    rw[List.set_append_right _ _ (by simp; omega)]
    simp[nT]
   have hsh:=zjb hBH.shut (by omega) r
   have hl14:(hitH HH r)[14]?=some (some (.loop tryE [46] zb0 zb1 (.done .ret))):=by
    unfold hitH
    exact List.getElem?_set_self (by simp; omega)
   have hsh14:zad 14 (hitH HH r)=((T.set 3 (some (.cells A1))).set 4 (some (.cells [.int .i64 0])))++[some (Blk.cells X1),some (Blk.cells X2),some (.cells [.ptr 6 0]),some (.cells X1),some (.cells X2),some (.cells [.int .u32 live])]:=by
    have hmE:E.map (Option.map (Blk.cl 14))=E:=by
     have:=hbE
     unfold zad at this
     rwa[List.take_of_length_le (by omega)] at this
    have hE1:zad 14 ((E.set 3 (some (.cells A1))).set 4 (some (.cells [.int .i64 0])))=(E.set 3 (some (.cells A1))).set 4 (some (.cells [.int .i64 0])):=by
     unfold zad
     rw[List.take_of_length_le (by simp; omega),List.map_set,List.map_set,hmE]
     simp[Blk.cl,kA1,clL,V.cl]
    have hEs:(E.set 3 (some (.cells A1))).set 4 (some (.cells [.int .i64 0]))=((T.set 3 (some (.cells A1))).set 4 (some (.cells [.int .i64 0])))++[some (Blk.cells X1),some (Blk.cells X2),some (.cells [.ptr 6 0]),some (.cells X1),some (.cells X2),some (.cells [.int .u32 live])]:=by rw[hE,ts3,ts4]
    have hcut:hitH HH r=((E.set 3 (some (.cells A1))).set 4 (some (.cells [.int .i64 0])))++[some (.loop tryE [46] zb0 zb1 (.done .ret))]:=by rw[hEs,hEE]; simp
    rw[hcut,zfX hE1 (by simp; exact nE),hEs]
   refine zeH (as:=zb0) (bo:=zb1) (x:=.ret) (H2:=hitH HH r) (r:=.tup []) ?_ (by rw[nE]; exact hl14) (.inr ⟨rfl,by decide⟩) ?_
   ·rw[nE]
    rw[hlk,←hHH]
    exact htt
   rw[nE,hsh14]
   simp only[] at hD
   simp[hD,nT,lA,tA1,kA1,nA1,tg3,tg4,tg3n,tg4n,←hA1]
end Go.Ev
/- The examples of layer 18. -/
namespace Go.Ev
open Go Go.RowKit
variable {G:Tbl}
theorem zr6{v w:List In4}{live:Nat}{s:St}{d:Da}(hk:∀ x∈v,x.k<4294967296)(hkw:∀ x∈w,x.k<4294967296)(hs:s.ok)(hd:d.ok)(hv:winB v=true)(hw:winB w=true)
  (h:zcp (winV [] v).p (winV (winV [] v).L w).p (winV [] v).st (winV (winV [] v).L w).st live=true):zcw v w live s d=false:=by
 have k1:=zcH Inv.nil v hk
 have k2:=zcH k1.ext.inv w hkw
 have V1:=(ziN Inv.nil hs hd hk hv).ext k2.ext
 have V2:=ziN k1.ext.inv hs hd hkw hw
 obtain⟨hp,hst⟩:=zja.1 h
 have hn1:=zex d v s
 have hn2:=zex d w s
 rw[←hst] at V2
 have one:∀{p q:List Int} {st:List Int} {a b:List In4} {L:List Nd},WV (asgL s d) L p st a d s→WV (asgL s d) L q st b d s→(runW d a s).2<a.length→(runW d b s).2≤b.length→(runW d b s).2<b.length:=fun{p q st a b L} A B hlt hle=>by
  rcases Nat.lt_or_ge (runW d b s).2 b.length with h|h
  ·exact h
  ·exfalso
   have he:(runW d b s).2=b.length:=Nat.le_antisymm hle h
   obtain⟨x,hx,_,hx0⟩:=A.stop hlt
   have hlt2:=(List.getElem?_eq_some_iff.1 hx).1
   rw[B.num,←he] at hlt2
   obtain⟨y,n,hy,_,hyn,hn0⟩:=B.ahead _ hlt2
   rw[hx] at hy
   cases hy
   rw[hx0] at hyn
   cases hyn
   exact hn0 rfl
 unfold zcw
 by_cases e1:(runW d v s).2<v.length
 ·have e2:=one V1 V2 e1 hn2
  simp[e1,e2]
 ·have e2:¬(runW d w s).2<w.length:=fun h=>e1 (one V2 V1 h hn1)
  rw[if_neg (by simp[e1,e2])]
  have d1:=V1.done (by omega)
  have d2:=V2.done (by omega)
  refine znl fun j hj=>?_
  unfold zcv
  cases hb:zdH live j with
  | false=>rfl
  | true =>
   have hpq:=hp j hj
   simp only[zcI,hb,Bool.true_and,bne_eq_false_iff_eq] at hpq
   have o1:=zey hd v s hs hk
   have o2:=zey hd w s hs hkw
   rw[Bool.true_and,bne_eq_false_iff_eq,zo6 o1 hj,zo6 o2 hj]
   have h1:=(d1.val j hj).2
   have h2:=(d2.val j hj).2
   rw[hpq,h2] at h1
   exact(Option.some.inj h1).symm
theorem dec_tells{v w:List In4}{live:Nat}(hv:winB v=true)(hw:winB w=true) :
  decR v w live=(0,none)∧zcp (winV [] v).p (winV (winV [] v).L w).p (winV [] v).st (winV (winV [] v).L w).st live=true ∨
  (∃ r,decR v w live=(1,some r)∧r∈zbr (winV (winV [] v).L w).L (winV [] v).p (winV (winV [] v).L w).p live∧zcw v w live (stO r) (ofW (r.drop 18))=true∧zcp (winV [] v).p (winV (winV [] v).L w).p (winV [] v).st (winV (winV [] v).L w).st live=false) ∨
  decR v w live=(2,none)∧(∀ r∈zbr (winV (winV [] v).L w).L (winV [] v).p (winV (winV [] v).L w).p live,zcw v w live (stO r) (ofW (r.drop 18))=false)∧zcp (winV [] v).p (winV (winV [] v).L w).p (winV [] v).st (winV (winV [] v).L w).st live=false:=by
 have hD:decR v w live=decR v w live:=rfl
 conv at hD=>rhs; rw[decR,hv,hw,if_pos (show(true&&true)=true from rfl)]
 cases hs:zcp (winV [] v).p (winV (winV [] v).L w).p (winV [] v).st (winV (winV [] v).L w).st live with
 | true =>
  rw[hs,if_pos rfl] at hD
  exact .inl ⟨hD,rfl⟩
 | false =>
  rw[hs] at hD
  simp only[Bool.false_eq_true,if_false] at hD
  cases hfd:(zbr (winV (winV [] v).L w).L (winV [] v).p (winV (winV [] v).L w).p live).find? (fun r=>zcw v w live (stO r) (ofW (r.drop 18))) with
  | none =>
   rw[hfd] at hD
   refine .inr (.inr ⟨hD,fun r hr=>?_,rfl⟩)
   have:=List.find?_eq_none.1 hfd r hr
   simpa using this
  | some r =>
   rw[hfd] at hD
   have hh:=List.find?_some hfd
   exact .inr (.inl ⟨r,hD,List.mem_of_find?_eq_some hfd,hh,rfl⟩)
end Go.Ev
/- knows of layer 18. -/
namespace Go.Ev
open Go Go.RowKit
variable {G:Tbl}
theorem zq1{r:List Nat}(hr:r.length=34)(hr':∀ x∈r,x<4294967296)(c:Int):(ansC c (some r)).length=28∧(ansC c (some r)).tail.take 18=(stO r).cs∧(ansC c (some r)).drop 19=(ofW (r.drop 18)).cs:=by
 have h1:=zh9 (zo2 hr hr')
 have h2:=zkl (zjI (w:=r.drop 18) (by simp[hr]) (fun x hx=>hr' x (List.mem_of_mem_drop hx)))
 refine⟨by simp only[ansC,List.length_cons,List.length_append,h1,h2],?_,?_⟩
 ·simp only[ansC,List.tail_cons]
  rw[List.take_left' h1]
 ·simp only[ansC]
  rw[List.drop_succ_cons,List.drop_left' h1]
end Go.Ev
/- The laws DecideEqual, DecideDiffer. -/
namespace Go.Ev
open Go Go.RowKit
variable {G:Tbl}
theorem zmf(c:Int)(o:Option (List Nat)):(ansC c o).take 1=[.int .i64 c]:=by cases o<;>rfl
theorem zkV(v w:List In4)(live:Nat):(ansC (decR v w live).1 (decR v w live).2).length=28:=by
 cases hww:winB v&&winB w with
 | false =>
  have hd0:decR v w live=(0,none):=by simp[decR,hww]
  rw[hd0]; rfl
 | true =>
  simp only[Bool.and_eq_true] at hww
  rcases dec_tells (live:=live) hww.1 hww.2 with⟨e,_⟩|⟨r,e,hr,_,_⟩|⟨e,_,_⟩
  ·rw[e]; rfl
  ·obtain⟨h1,h2⟩:=zhj hr
   rw[e]; exact(zq1 h1 h2 1).1
  ·rw[e]; rfl
end Go.Ev
/- Which pieces are free: splice.free, splice.Free, hurdleref22.Free. -/
namespace Go.Ev
open Go Go.RowKit
variable {G:Tbl}
def zeI(f:List In4)(a m:Nat):Bool:=(List.range m).all fun j=>!hitB f f.length (a+1+j)
theorem zq2(f:List In4)(a m:Nat):zeI f a (m+1)=(zeI f a m&&!hitB f f.length (a+1+m)):=by simp[zeI,List.range_succ,List.all_append]
theorem zpy{f:List In4}{a m n:Nat}(h:hitB f f.length (a+1+m)=true)(hm:m<n):zeI f a n=false:=by
 rw[←Bool.not_eq_true,zeI,List.all_eq_true]
 intro h2
 have:=h2 m (List.mem_range.2 hm)
 rw[h] at this; cases this
def zb5(f:List In4)(a n:Nat):Bool:=winB ((f.drop a).take n)&&zeI f a (n-1)
def inB(f:List In4)(a n:Int):Bool:=decide (0≤a∧1≤n∧a<f.length∧n≤f.length-a)
def zcq(f:List In4)(a n:Int):Bool:=inB f a n&&zb5 f a.toNat n.toNat
def zfN(f:List In4)(a n:Int):Bool:=zap f&&zcq f a n
theorem ze9{f:List In4}(hs:zap f=true):f.length≤4096:=by simp only[zap,Bool.and_eq_true,decide_eq_true_eq] at hs; exact hs.1.1
theorem zj4{f:List In4}(hk:∀ x∈f,x.k<4294967296)(a n:Nat):∀ x∈(f.drop a).take n,x.k<4294967296:=fun x hx=>hk x (List.mem_of_mem_drop (List.mem_of_mem_take hx))
theorem zp6[HasIns G][HasCheck G][HasWRight G][HasSpl G](f:List In4)(a n:Int)(hs:zap f=true)(hk:∀ x∈f,x.k<4294967296) :
  FP G 205 [FL f,.vs (zbi (hits f f.length)) .no,.int .i64 a,.int .i64 n] (.bool (zcq f a n)):=by
 refine zak HasSpl.h_splice_free (Nat.le_of_ble_eq_true rfl) ?_
 have hl:=ze9 hs
 have hml:maxLen=9223372036854775807:=by decide
 by_cases h1:a<0
 ·have:zcq f a n=false:=by simp[zcq,inB,show¬0≤a by omega]
  simp[h1,this]
 by_cases h2:n<1
 ·have:zcq f a n=false:=by simp[zcq,inB,show¬1≤n by omega]
  simp[h1,h2,this]
 by_cases h3:(f.length:Int)≤a
 ·have:zcq f a n=false:=by simp[zcq,inB,show¬a<f.length by omega]
  simp[h1,h2,h3,FL,this]
 have s1:subI .i64 (f.length:Int) a=(f.length:Int)-a:=by rw[zct]<;>omega
 by_cases h4:(f.length:Int)-a<n
 ·have:zcq f a n=false:=by simp[zcq,inB,show¬n≤f.length-a by omega]
  simp[h1,h2,h3,h4,s1,FL,this]
 have hin:inB f a n=true:=by simp only[inB,decide_eq_true_eq]; omega
 obtain⟨a,rfl⟩:=Int.eq_ofNat_of_zero_le (show 0≤a by omega)
 obtain⟨n,rfl⟩:=Int.eq_ofNat_of_zero_le (show 0≤n by omega)
 have hfr:zcq f (a:Int) (n:Int)=zb5 f a n:=by simp[zcq,hin]
 rw[hfr]
 have h1:((a:Int)<0)=False:=eq_false h1
 have h2':((n:Int)<1)=False:=eq_false h2
 have h2:(n=0)=False:=eq_false (by omega)
 have h3:((f.length:Int)≤(a:Int))=False:=eq_false h3
 have h4:((f.length:Int)-(a:Int)<(n:Int))=False:=eq_false h4
 have hbd:a+n≤f.length:=by omega
 have aa:addI .i64 (a:Int) (n:Int)=((a+n:Nat):Int):=addN (by omega)
 have a1:addI .i64 (a:Int) 1=((a+1:Nat):Int):=zag (by omega)
 have hw:=zbW (G:=G) ((f.drop a).take n) (by rw[List.length_take]; omega) (zj4 hk a n)
 have hsl:List.take n (List.drop a (IL f))=IL ((f.drop a).take n):=by rw[zmc,zmd]
 have hhl:=ziP f f.length
 simp only[FL] at hw
 simp(disch:=omega)[h1,h2,h2',h3,h4,s1,FL,aa,leTn,hsl,-Int.natCast_add]
 refine zab hw ?_
 cases hwb:winB ((f.drop a).take n)
 ·simp[zb5,hwb]
 have hfn:zb5 f a n=zeI f a (n-1):=by simp[zb5,hwb]
 rw[hfn]
 simp[a1,-Int.natCast_add]
 refine W_up (n-1) (fun j=>[(1,.vs (zbi (hits f f.length)) .no),(2,.int .i64 a),(3,.int .i64 n),(9,.int .i64 ((a+1+j:Nat):Int))]) (fun _=>[]) (fun j=>zeI f a j=true) ?_ ?_
 ·simp[zaa,zad,zeI]
 intro j hj hp
 by_cases hlt:j<n-1
 ·have hF:((a+1+j:Nat):Int)<((a+n:Nat):Int):=by omega
  have hg:=zfH f f.length (a+1+j) (by omega)
  obtain⟨_,hgv⟩:=List.getElem?_eq_some_iff.1 hg
  have a2:addI .i64 ((a+1+j:Nat):Int) 1=((a+1+(j+1):Nat):Int):=zag (by omega)
  cases hh:hitB f f.length (a+1+j)
  ·rw[hh] at hg hgv
   have hp':zeI f a (j+1)=true:=by rw[zq2,hp,hh]; rfl
   simp(disch:=omega)[aa,ltT hF,hg,hgv,hhl,hlt,a2,hp',zaa,zad,-Int.natCast_add]
  ·rw[hh] at hg hgv
   have:=zpy hh hlt
   simp(disch:=omega)[aa,ltT hF,hg,hgv,hhl,this,-Int.natCast_add]
 ·have hne:j=n-1:=by omega
  subst hne
  have hF:¬((a+1+(n-1):Nat):Int)<((a+n:Nat):Int):=by omega
  simp[aa,ltF hF,hp,-Int.natCast_add]
theorem zvD[HasIns G][HasCheck G][HasWRight G][HasSpl G](f:List In4)(a n:Int)(hf:f.length≤maxLen)(hk:∀ x∈f,x.k<4294967296) :
  FP G 206 [FL f,.int .i64 a,.int .i64 n] (.bool (zfN f a n)):=by
 refine zak HasSpl.h_splice_Free (Nat.le_of_ble_eq_true rfl) ?_
 have hso:=zgO (G:=G) f hf hk
 simp
 refine zab hso ?_
 cases hs:zap f
 ·simp[zfN,hs]
 ·simp
  refine zab (zlX f hs hk) ?_
  simp
  refine zab (zp6 f a n hs hk) ?_
  simp[zfN,hs]
end Go.Ev
/- A filter with another window: splice.Put. -/
namespace Go.Ev
open Go Go.RowKit
variable {G:Tbl}
def adjN(a e less i d:Nat):Nat:=if i<a∧e≤i+1+d then d-less else d
def putI(a e less i:Nat)(x:In4):In4:=if x.op=5 then{ x with k:=adjN a e less i x.k } else if isBr x.op then{ x with jt:=(adjN a e less i x.jt.toNat:Nat),jf:=(adjN a e less i x.jf.toNat:Nat) } else x
def pre(f:List In4)(a e less m:Nat):List In4:=(List.range m).map fun i=>putI a e less i (f.getD i RET)
def putL(f:List In4)(a n:Nat)(w:List In4):List In4:=pre f a (a+n) (n-w.length) a++w++f.drop (a+n)
def znO(f:List In4)(a n:Int)(w:List In4):Bool:=zfN f a n&&winB w&&decide ((w.length:Int)≤n)
def zdh(f:List In4)(a n:Nat)(w:List In4)(i:Nat):List In4 :=
 if i≤a then pre f a (a+n) (n-w.length) i else pre f a (a+n) (n-w.length) a++w++(f.take i).drop (a+n)
theorem ztQ(f:List In4)(a e less m:Nat):pre f a e less (m+1)=pre f a e less m++[putI a e less m (f.getD m RET)]:=by simp[pre,List.range_succ]
theorem zep(f:List In4)(a e less m:Nat):(pre f a e less m).length=m:=by simp[pre]
theorem zr7{f:List In4}{a n:Nat}{w:List In4}{i:Nat}(hi:i≤f.length)(hw:w.length≤32):(zdh f a n w i).length≤i+32:=by
 unfold zdh
 split
 ·rw[zep]; omega
 ·simp only[List.length_append,zep,List.length_drop,List.length_take]; omega
theorem zr8{f:List In4}{a n:Nat}{w:List In4}(h:a+n≤f.length)(hn:0<n):zdh f a n w f.length=putL f a n w:=by
 rw[zdh,if_neg (by omega),List.take_length,putL]
theorem zvE[HasSpl G](a e less i d:Nat)(z:Blk)(y:List V)(hi:i≤5000)(hd:d<4294967296)(hl:less≤d+5000)(hle:i<a→e≤i+1+d→less≤d) :
  Big G (.F 207 [.int .i64 i,.int .i64 d,.ptr 0 0,.ptr 1 0,.ptr 2 0] [some (.cells [.int .i64 a]),some (.cells [.int .i64 e]),some (.cells [.int .i64 less]),some z,some (.cells y)] (.int .i64 (adjN a e less i d:Nat))
   [some (.cells [.int .i64 a]),some (.cells [.int .i64 e]),some (.cells [.int .i64 less]),some z,some (.cells y)]):=by
 refine F_of HasSpl.h_splice_Put_1 (Nat.le_of_ble_eq_true rfl) ?_
 have a1:addI .i64 (i:Int) 1=((i+1:Nat):Int):=zag (by omega)
 have a2:addI .i64 ((i+1:Nat):Int) (d:Int)=((i+1+d:Nat):Int):=addN (by omega)
 by_cases h1:i<a
 ·by_cases h2:e≤i+1+d
  ·have s1:subI .i64 (d:Int) (less:Int)=((adjN a e less i d:Nat):Int):=by
    have:=hle h1 h2
    rw[adjN,if_pos ⟨h1,h2⟩,zct]<;>omega
   have h2':((e:Int)≤((i+1+d:Nat):Int))=True:=eq_true (by omega)
   simp[h1,a1,a2,h2',s1,-Int.natCast_add]
  ·have s1:adjN a e less i d=d:=by rw[adjN,if_neg (by omega)]
   have h2':((e:Int)≤((i+1+d:Nat):Int))=False:=eq_false (by omega)
   simp[h1,a1,a2,h2',s1,-Int.natCast_add]
 ·have s1:adjN a e less i d=d:=by rw[adjN,if_neg (by omega)]
  simp[h1,s1]
theorem zwI[HasIns G][HasCheck G][HasWRight G][HasSpl G](f w:List In4)(a n:Nat)(hf:f.length≤maxLen)(hw:w.length≤maxLen)(hk:∀ x∈f,x.k<4294967296)(hkw:∀ x∈w,x.k<4294967296)(h:znO f a n w=true) :
  FP G 208 [FL f,.int .i64 a,.int .i64 n,FL w] (.tup [.vs (IL (putL f a n w)) .no,.int .i64 0]):=by
 refine zak HasSpl.h_splice_Put (Nat.le_of_ble_eq_true rfl) ?_
 have hfr:=zvD (G:=G) f a n hf hk
 have hwr:=zbW (G:=G) w hw hkw
 simp only[znO,Bool.and_eq_true,decide_eq_true_eq] at h
 obtain⟨⟨h1,h2⟩,h3⟩:=h
 rw[h1] at hfr
 rw[h2] at hwr
 simp only[zfN,zcq,inB,Bool.and_eq_true,decide_eq_true_eq] at h1
 obtain⟨hs,⟨_,i2,i3,i4⟩,hfn⟩:=h1
 simp only[Int.toNat_natCast] at hfn
 have hlen:=ze9 hs
 have hw32:w.length≤32:=by simp only[winB,Bool.and_eq_true,decide_eq_true_eq] at h2; exact h2.1
 have hbd:a+n≤f.length:=by omega
 have h3':((n:Int)<(w.length:Int))=False:=eq_false (by omega)
 have aa:addI .i64 (a:Int) (n:Int)=((a+n:Nat):Int):=addN (by omega)
 have ss:subI .i64 (n:Int) (w.length:Int)=((n-w.length:Nat):Int):=by rw[zct]<;>omega
 simp only[FL] at hfr hwr
 simp[FL]
 refine zab hfr ?_
 simp
 refine zab hwr ?_
 simp[h3',aa,ss,-Int.natCast_add]
 obtain⟨T,hT⟩:∃ T:Nat→List In4,∀ j,T j=zdh f a n w j:=⟨_,fun _=>rfl⟩
 have hT0:T 0=[]:=by rw[hT,zdh,if_pos (by omega)]; rfl
 refine W_up f.length (fun i=>[(3,FL w),(5,.ptr 0 0),(10,.ptr 1 0),(12,.fn 207 [.ptr 0 0,.ptr 1 0,.ptr 2 0]),(13,.vs (IL (T i)) (.own 3)),(40,FL f),(41,.int .i64 f.length),(42,.int .i64 i)])
  (fun i=>[some (.cells [.int .i64 a]),some (.cells [.int .i64 ((a+n:Nat):Int)]),some (.cells [.int .i64 ((n-w.length:Nat):Int)]),some (.zone (T i).length)]) (fun _=>True) ?_ ?_
 ·simp[zaa,zad,FL,hT0]
 intro i hi _
 by_cases hlt:i<f.length
 ·have hTl:(T i).length≤i+32:=by rw[hT]; exact zr7 hi hw32
  obtain⟨x,hfx⟩:∃ x,x=f[i]:=⟨_,rfl⟩
  have hgg:=zbg hlt
  rw[←hfx] at hgg
  have hfx:=hfx.symm
  have hg:f[i]?=some x:=by rw[List.getElem?_eq_getElem hlt,hfx]
  have hD:f.getD i RET=x:=by rw[List.getD,hg]; rfl
  have hxm:x∈f:=hfx▸List.getElem_mem hlt
  have hkk:=hk x hxm
  have hbo:=ziM hs hg
  have hcs:x.cs=[.int .i64 x.op,.int .i64 x.jt,.int .i64 x.jf,.int .u32 (x.k:Int)]:=rfl
  have hbr:=zcc (G:=G) x
  simp[IV,hcs] at hbr
  have hend:((a:Int)≤(i:Int))=(a≤i):=propext (by omega)
  by_cases hia:i=a
  ·have e1:((i:Int)==(a:Int))=true:=by simp[hia]
   have hTs:T (i+1)=T i++w:=by
    rw[hT,hT,zdh,zdh,if_neg (by omega),if_pos (by omega),hia]
    rw[List.drop_eq_nil_of_le (by rw[List.length_take]; omega)]; simp
   have hTl2:(T (i+1)).length=(T i).length+w.length:=by rw[hTs]; simp
   have hE:((i:Int)<((a+n:Nat):Int))=True:=eq_true (by omega)
   have hG:((a:Int)≤(i:Int))=True:=eq_true (by omega)
   have hap:IL (T i)++IL w=IL (T (i+1)):=by rw[ztj,hTs]
   by_cases hw0:w=[]
   ·subst hw0
    have hTe:T (i+1)=T i:=by rw[hTs]; simp
    simp(disch:=omega)[ltT,FL,hgg,hfx,hcs,e1,hE,hG,hTe,hlt,zag,zaa,zad,-Int.natCast_add]
   ·simp(disch:=omega)[ltT,FL,hgg,hfx,hcs,e1,hE,hG,zjY,hw0,leTn,hap,hTl2,hlt,zag,zaa,zad,-Int.natCast_add]
  have e1:((i:Int)==(a:Int))=false:=beqF (by omega)
  by_cases hmid:a≤i∧i<a+n
  ·have hTe:T (i+1)=T i:=by
    rw[hT,hT,zdh,zdh,if_neg (by omega),if_neg (by omega)]
    rw[List.drop_eq_nil_of_le (by rw[List.length_take]; omega),List.drop_eq_nil_of_le (by rw[List.length_take]; omega)]
   have hE:((i:Int)<((a+n:Nat):Int))=True:=eq_true (by omega)
   have hG:((a:Int)≤(i:Int))=True:=eq_true (by omega)
   simp(disch:=omega)[ltT,FL,hgg,hfx,hcs,e1,hE,hG,hTe,hlt,zag,zaa,zad,-Int.natCast_add]
  have hTs:T (i+1)=T i++[putI a (a+n) (n-w.length) i x]:=by
   rw[hT,hT]
   by_cases hlo:i<a
   ·rw[zdh,zdh,if_pos (by omega),if_pos (by omega),ztQ,hD]
   ·have hadj:∀ d,adjN a (a+n) (n-w.length) i d=d:=fun d=>by rw[adjN,if_neg (by omega)]
    have hpx:putI a (a+n) (n-w.length) i x=x:=by
     unfold putI
     simp only[hadj]
     obtain⟨op,jt,jf,k⟩:=x
     by_cases h5:op=5
     ·simp[h5]
     ·cases hbx:isBr op
      ·simp[h5]
      ·obtain⟨b1,b2,b3,b4⟩:=hbo hbx
       simp only at b1 b2 b3 b4
       simp[h5]; omega
    have hdr:(f.take (i+1)).drop (a+n)=(f.take i).drop (a+n)++[x]:=by
     rw[List.take_add_one,hg,Option.toList_some,List.drop_append_of_le_length (by rw[List.length_take]; omega)]
    rw[hpx,zdh,zdh,if_neg (by omega),hdr]
    by_cases hia2:i≤a
    ·omega
    ·rw[if_neg hia2,←List.append_assoc]
  have hTl2:(T (i+1)).length=(T i).length+1:=by rw[hTs]; simp
  have ho:∀ d:Nat,d<4294967296→_:=fun d hd=>zvE (G:=G) a (a+n) (n-w.length) i d (.zone (T i).length) x.cs (by omega) hd (by omega) (fun h1 h2=>by omega)
  have hadl:∀ d:Nat,adjN a (a+n) (n-w.length) i d≤d:=fun d=>by unfold adjN; split<;>omega
  have hsn:∀ y:In4,y=putI a (a+n) (n-w.length) i x→IL (T i)++[y.cs]=IL (T (i+1)):=fun y hy=>by rw[hTs,hy]; exact zmK _ _
  by_cases hai:a≤i
  ·have hG:((a:Int)≤(i:Int))=True:=eq_true (by omega)
   have hE:((i:Int)<((a+n:Nat):Int))=False:=eq_false (by omega)
   by_cases h5:x.op=5
   ·have b5:(x.op==5)=true:=by simp[h5]
    have hc:=zfL x.k hkk
    have hov:=ho x.k hkk
    have hc2:za4 .u32 ((adjN a (a+n) (n-w.length) i x.k:Nat):Int)=((adjN a (a+n) (n-w.length) i x.k:Nat):Int):=by unfold za4; exact za9 (by have:=hadl x.k; omega)
    have hap:=hsn ⟨x.op,x.jt,x.jf,adjN a (a+n) (n-w.length) i x.k⟩ (by simp[putI,h5])
    simp only[In4.cs] at hov hap
    simp(disch:=omega)[ltT,FL,hgg,hfx,hcs,e1,hG,hE,b5,hc,-Int.natCast_add]
    refine zaG hov (by simp) ?_
    simp(disch:=omega)[zad,hc2,leTn,hap,hTl2,hlt,zag,zaa,-Int.natCast_add]
   have b5:(x.op==5)=false:=beqF h5
   simp(disch:=omega)[ltT,FL,hgg,hfx,hcs,e1,hG,hE,b5,-Int.natCast_add]
   refine zab hbr ?_
   cases hbx:isBr x.op
   ·have hap:=hsn x (by simp[putI,h5,hbx])
    simp only[In4.cs] at hap
    simp(disch:=omega)[leTn,hap,hTl2,hlt,zag,zaa,zad,-Int.natCast_add]
   ·obtain⟨b1,b2,b3,b4⟩:=hbo hbx
    have hov:=ho x.jt.toNat (by omega)
    have hov2:=ho x.jf.toNat (by omega)
    have hap:=hsn ⟨x.op,(adjN a (a+n) (n-w.length) i x.jt.toNat:Nat),(adjN a (a+n) (n-w.length) i x.jf.toNat:Nat),x.k⟩ (by simp[putI,h5,hbx])
    have j1:((x.jt.toNat:Nat):Int)=x.jt:=by omega
    have j2:((x.jf.toNat:Nat):Int)=x.jf:=by omega
    simp only[In4.cs,j1,j2] at hov hov2 hap
    simp
    refine zaG hov (by simp[zad]) ?_
    simp[zad]
    refine zaG hov2 (by simp[zad]) ?_
    simp(disch:=omega)[zad,leTn,hap,hTl2,hlt,zag,zaa,-Int.natCast_add]
    omega
  ·have hG:((a:Int)≤(i:Int))=False:=eq_false (by omega)
   by_cases h5:x.op=5
   ·have b5:(x.op==5)=true:=by simp[h5]
    have hc:=zfL x.k hkk
    have hov:=ho x.k hkk
    have hc2:za4 .u32 ((adjN a (a+n) (n-w.length) i x.k:Nat):Int)=((adjN a (a+n) (n-w.length) i x.k:Nat):Int):=by unfold za4; exact za9 (by have:=hadl x.k; omega)
    have hap:=hsn ⟨x.op,x.jt,x.jf,adjN a (a+n) (n-w.length) i x.k⟩ (by simp[putI,h5])
    simp only[In4.cs] at hov hap
    simp(disch:=omega)[ltT,FL,hgg,hfx,hcs,e1,hG,b5,hc,-Int.natCast_add]
    refine zaG hov (by simp) ?_
    simp(disch:=omega)[zad,hc2,leTn,hap,hTl2,hlt,zag,zaa,-Int.natCast_add]
   have b5:(x.op==5)=false:=beqF h5
   simp(disch:=omega)[ltT,FL,hgg,hfx,hcs,e1,hG,b5,-Int.natCast_add]
   refine zab hbr ?_
   cases hbx:isBr x.op
   ·have hap:=hsn x (by simp[putI,h5,hbx])
    simp only[In4.cs] at hap
    simp(disch:=omega)[leTn,hap,hTl2,hlt,zag,zaa,zad,-Int.natCast_add]
   ·obtain⟨b1,b2,b3,b4⟩:=hbo hbx
    have hov:=ho x.jt.toNat (by omega)
    have hov2:=ho x.jf.toNat (by omega)
    have hap:=hsn ⟨x.op,(adjN a (a+n) (n-w.length) i x.jt.toNat:Nat),(adjN a (a+n) (n-w.length) i x.jf.toNat:Nat),x.k⟩ (by simp[putI,h5,hbx])
    have j1:((x.jt.toNat:Nat):Int)=x.jt:=by omega
    have j2:((x.jf.toNat:Nat):Int)=x.jf:=by omega
    simp only[In4.cs,j1,j2] at hov hov2 hap
    simp
    refine zaG hov (by simp[zad]) ?_
    simp[zad]
    refine zaG hov2 (by simp[zad]) ?_
    simp(disch:=omega)[zad,leTn,hap,hTl2,hlt,zag,zaa,-Int.natCast_add]
    omega
 ·have hne:i=f.length:=by omega
  subst hne
  have hTe:T f.length=putL f a n w:=by rw[hT,zr8 hbd (by omega)]
  simp[hTe]
end Go.Ev
/- A filter's free pieces: splice.Pieces, hurdleref22.Pieces. -/
namespace Go.Ev
open Go Go.RowKit
variable {G:Tbl}
abbrev Pc:=Nat×Nat
def pr(c:Nat→Bool)(a k j:Nat):List Pc:=(List.range j).flatMap fun i=>if c (k-i) then [(a,k-i)] else []
theorem zgH(c:Nat→Bool)(a k j:Nat):pr c a k (j+1)=pr c a k j++(if c (k-j)=true then [(a,k-j)] else []):=by
 simp[pr,List.range_succ,List.flatMap_append]
theorem zj5(c:Nat→Bool)(a:Nat):∀(d k:Nat),(∀ m,k<m→m≤k+d→c m=false)→∀ j,pr c a (k+d) (d+j)=pr c a k j
 | 0,k,_,j=>by simp
 | d+1,k,h,0=>by
  have:=zj5 c a d (k+1) (fun m h1 h2=>h m (by omega) (by omega)) 1
  rw[show k+(d+1)=k+1+d by omega,show d+1+0=d+1 by omega,this]
  simp[pr,h (k+1) (by omega) (by omega)]
 | d+1,k,h,j+1=>by
  have ih:=zj5 c a (d+1) k h j
  rw[show d+1+(j+1)=(d+1+j)+1 by omega,zgH,ih,zgH]
  rw[show k+(d+1)-(d+1+j)=k-j by omega]
theorem zok(c:Nat→Bool)(a k:Nat):∀ j,(pr c a k j).length≤j
 | 0=>by simp[pr]
 | j+1=>by
  rw[zgH,List.length_append]
  have:=zok c a k j
  split<;>simp<;>omega
def cnd(f:List In4)(most:Int)(a m:Nat):Bool:=decide ((m:Int)≤most)&&decide ((m:Int)≤f.length-a)&&zfN f a m
def rows(f:List In4)(most:Int)(a:Nat):List Pc:=(List.range a).flatMap fun b=>pr (cnd f most b) b 32 31
theorem zhk(f:List In4)(most:Int)(a:Nat):rows f most (a+1)=rows f most a++pr (cnd f most a) a 32 31:=by
 simp[rows,List.range_succ,List.flatMap_append]
theorem zkW(f:List In4)(most:Int):∀ a,(rows f most a).length≤31*a
 | 0=>by simp[rows]
 | a+1=>by
  rw[zhk,List.length_append]
  have:=zkW f most a
  have:=zok (cnd f most a) a 32 31
  omega
theorem zp7{c:Nat→Bool}(h:∀ m,c m=false)(a k:Nat):∀ j,pr c a k j=[]
 | 0=>rfl
 | j+1=>by rw[zgH,zp7 h a k j,h]; rfl
theorem zm1{f:List In4}(h:zap f=false)(most:Int):∀ a,rows f most a=[]
 | 0=>rfl
 | a+1=>by rw[zhk,zm1 h most a,zp7 (fun m=>by simp[cnd,zfN,h])]; rfl
theorem zwJ{f:List In4}{most:Int}{a:Nat}(k:Int)(hk:k=min most (min ((f.length:Int)-a) 32)):pr (cnd f most a) a 32 31=pr (cnd f most a) a k.toNat (k.toNat-1):=by
 by_cases h2:k<1
 ·have:∀ m,1≤m→m≤32→cnd f most a m=false:=by
   intro m h1 h3
   by_cases hm:(m:Int)≤most
   ·have:¬(m:Int)≤f.length-a:=by omega
    simp[cnd,this]
   ·simp[cnd,hm]
  have h3:=zj5 (cnd f most a) a 31 1 (fun m h1 h2=>this m (by omega) (by omega)) 0
  simp only[Nat.add_zero] at h3
  rw[show k.toNat-1=0 by omega,h3]
  rfl
 ·have h3:=zj5 (cnd f most a) a (32-k.toNat) k.toNat (fun m h1 h3=>by
   by_cases hm:(m:Int)≤most
   ·have:¬(m:Int)≤f.length-a:=by omega
    simp[cnd,this]
   ·simp[cnd,hm]) (k.toNat-1)
  rw[show k.toNat+(32-k.toNat)=32 by omega,show 32-k.toNat+(k.toNat-1)=31 by omega] at h3
  exact h3
def zcF(l:List Pc):List (List V):=l.map fun p=>[.int .i64 (p.1:Int),.int .i64 (p.2:Int)]
@[simp] theorem zwK (l:List Pc):(zcF l).length=l.length:=by simp[zcF]
@[simp] theorem zAT:zcF []=[]:=rfl
@[simp] theorem zlw (l:List Pc) (a m:Nat):zcF l++[[V.int .i64 (a:Int),.int .i64 (m:Int)]]=zcF (l++[(a,m)]):=by simp[zcF]
@[simp] theorem zAU (l:List Pc) (i:Nat):(zcF l)[i]?=(l[i]?).map fun p=>[.int .i64 (p.1:Int),.int .i64 (p.2:Int)]:=by simp[zcF]
@[simp] theorem zBg (l:List Pc):(∀ f∈zcF l,f.length=2)=True:=by
 simp only[eq_iff_iff,iff_true]
 intro f hf
 simp only[zcF,List.mem_map] at hf
 obtain⟨x,_,rfl⟩:=hf
 rfl
theorem zr9[HasIns G][HasCheck G][HasWRight G][HasSpl G](f:List In4)(most:Int)(hf:f.length≤maxLen)(hk:∀ x∈f,x.k<4294967296)(hm:-9223372036854775808≤most∧most≤9223372036854775807) :
  FP G 209 [FL f,.int .i64 most] (.vs (zcF (rows f most f.length)) .no):=by
 refine zak HasSpl.h_splice_Pieces (Nat.le_of_ble_eq_true rfl) ?_
 have hso:=zgO (G:=G) f hf hk
 simp
 refine zab hso ?_
 cases hs:zap f
 ·rw[zm1 hs]; simp
 have hl:=ze9 hs
 simp
 refine zab (zlX f hs hk) ?_
 simp[FL]
 refine W_up f.length (fun a=>[(0,FL f),(1,.int .i64 most),(5,.vs (zbi (hits f f.length)) .no),(6,.vs (zcF (rows f most a)) (.own 0)),(15,.int .i64 f.length),(16,.int .i64 a)]) (fun a=>[some (.zone (rows f most a).length)]) (fun _=>True) ?_ ?_
 ·simp[zaa,zad,FL,rows]
 intro a ha _
 have hrl:=zkW f most a
 by_cases hlt:a<f.length
 ·obtain⟨k,hkk⟩:∃ k,k=min most (min ((f.length:Int)-a) 32):=⟨_,rfl⟩
  have hpm:=zwJ k hkk
  have s1:subI .i64 (f.length:Int) (a:Int)=(f.length:Int)-a:=by rw[zct]<;>omega
  have hkm:(if 32<if(f.length:Int)-(a:Int)<most then(f.length:Int)-(a:Int) else most then 32 else if(f.length:Int)-(a:Int)<most then(f.length:Int)-(a:Int) else most)=k:=by omega
  simp(disch:=omega)[ltT,FL,s1,mmGo,mmI,hkm,-Int.natCast_add]
  obtain⟨T,hT⟩:∃ T:Nat→List Pc,∀ j,T j=rows f most a++pr (cnd f most a) a k.toNat j:=⟨_,fun _=>rfl⟩
  have hT0:T 0=rows f most a:=by rw[hT]; simp[pr]
  refine W_up (k.toNat-1) (fun j=>[(0,FL f),(1,.int .i64 most),(5,.vs (zbi (hits f f.length)) .no),(6,.vs (zcF (T j)) (.own 0)),(7,.int .i64 a),(8,.int .i64 (k-j)),(15,.int .i64 f.length),(16,.int .i64 a)])
   (fun j=>[some (.zone (T j).length)]) (fun _=>True) ?_ ?_
  ·simp[zaa,zad,FL,hT0]
  intro j hj _
  have hpl:=zok (cnd f most a) a k.toNat j
  have hll:(T j).length≤31*a+j:=by rw[hT,List.length_append]; omega
  have hps:=zgH (cnd f most a) a k.toNat j
  by_cases hjl:j<k.toNat-1
  ·have hge:(2:Int)≤k-j:=by omega
   have e1:k-(j:Int)=((k.toNat-j:Nat):Int):=by omega
   have hfr:=zp6 (G:=G) f a ((k.toNat-j:Nat):Int) hs hk
   have s2:subI .i64 ((k.toNat-j:Nat):Int) 1=k-((j+1:Nat):Int):=by rw[zct]<;>omega
   have hle:((2:Int)≤((k.toNat-j:Nat):Int))=True:=eq_true (by omega)
   have hcn:cnd f most a (k.toNat-j)=zcq f a ((k.toNat-j:Nat):Int):=by
    have h1:((k.toNat-j:Nat):Int)≤most:=by omega
    have h2:((k.toNat-j:Nat):Int)≤f.length-a:=by omega
    simp[cnd,h1,h2,zfN,hs]
   simp only[FL] at hfr
   rw[hcn] at hps
   rw[e1]
   simp(disch:=omega)[hle,FL,-Int.natCast_add]
   refine zab hfr ?_
   cases hfb:zcq f a ((k.toNat-j:Nat):Int)
   ·rw[hfb] at hps
    have hsame:T (j+1)=T j:=by rw[hT,hT,hps]; simp
    simp(disch:=omega)[s2,hjl,hsame,zaa,zad,FL,-Int.natCast_add]
   ·rw[hfb] at hps
    simp only[if_true] at hps
    have hsn:T (j+1)=T j++[(a,k.toNat-j)]:=by rw[hT,hT,hps,List.append_assoc]
    have hll2:(T (j+1)).length=(T j).length+1:=by rw[hsn]; simp
    have hsn2:zcF (T j)++[[V.int .i64 (a:Int),.int .i64 ((k.toNat-j:Nat):Int)]]=zcF (T (j+1)):=by rw[zlw,hsn]
    simp(disch:=omega)[leTn,hsn2,hll2,s2,hjl,zaa,zad,FL,-Int.natCast_add,-zlw]
  ·have hne:j=k.toNat-1:=by omega
   subst hne
   have hF:((2:Int)≤k-((k.toNat-1:Nat):Int))=False:=eq_false (by omega)
   have hTe:T (k.toNat-1)=rows f most (a+1):=by rw[hT,←hpm,←zhk]
   rw[hTe]
   simp(disch:=omega)[hF,hlt,zag,zaa,zad,FL,-Int.natCast_add]
 ·have hne:a=f.length:=by omega
  subst hne
  simp
def zil(t:Tk)(l:List Pc):List (List V):=l.map fun p=>[.vs [[.int .i64 (p.1:Int)],[.int .i64 (p.2:Int)]] t]
@[simp] theorem zwL (t:Tk) (l:List Pc):(zil t l).length=l.length:=by simp[zil]
@[simp] theorem zAV (t:Tk):zil t []=[]:=rfl
@[simp] theorem zAW (t:Tk) (l:List Pc) (i:Nat):(zil t l)[i]?=(l[i]?).map fun p=>[.vs [[.int .i64 (p.1:Int)],[.int .i64 (p.2:Int)]] t]:=by simp[zil]
@[simp] theorem zBh (t:Tk) (l:List Pc):(∀ f∈zil t l,f.length=1)=True:=by
 simp only[eq_iff_iff,iff_true]
 intro f hf
 simp only[zil,List.mem_map] at hf
 obtain⟨x,_,rfl⟩:=hf
 rfl
theorem zsa{c:Nat→Bool}{a k:Nat}{p:Pc}:∀{j:Nat},p∈pr c a k j→p.1=a∧c p.2=true∧p.2≤k∧k<p.2+j
 | 0,h=>by simp[pr] at h
 | j+1,h=>by
  rw[zgH,List.mem_append] at h
  rcases h with h|h
  ·obtain⟨h1,h2,h3,h4⟩:=zsa h; exact⟨h1,h2,h3,by omega⟩
  ·split at h
   ·rename_i hc
    simp only[List.mem_singleton] at h
    subst h
    exact⟨rfl,hc,by simp,by simp only; omega⟩
   ·cases h
theorem zkX{f:List In4}{most:Int}{p:Pc}:∀{n:Nat},p∈rows f most n→p.1<n∧cnd f most p.1 p.2=true∧2≤p.2∧p.2≤32
 | 0,h=>by simp[rows] at h
 | n+1,h=>by
  rw[zhk,List.mem_append] at h
  rcases h with h|h
  ·obtain⟨h1,h2⟩:=zkX h; exact⟨by omega,h2⟩
  ·obtain⟨h1,h2,h3,h4⟩:=zsa h
   exact⟨by omega,by rw[h1]; exact h2,by omega,h3⟩
end Go.Ev
/- The laws SpliceSound and SpliceSelf. -/
namespace Go.Ev
open Go Go.RowKit
variable {G:Tbl}
theorem zol:∀{f:List In4},(∀ i x,f[i]?=some x→oneB x (f.length-1-i)=true)→zaL f=true
 | [],_=>rfl
 | x::f,h=>by
  rw[zaL,Bool.and_eq_true]
  refine⟨by have:=h 0 x rfl; simpa using this,zol fun i y hy=>?_⟩
  have:=h (i+1) y (by simpa using hy)
  rw[←this]; congr 1; simp only[List.length_cons]; omega
theorem zsb{x:In4}(a e less i:Nat)(h:zaV x=true)(hr:zbc x=true):zaV (putI a e less i x)=true∧zbc (putI a e less i x)=true:=by
 have hbo:=zb3 h
 have hadl:∀ d:Nat,adjN a e less i d≤d:=fun d=>by unfold adjN; split<;>omega
 unfold putI
 by_cases h5:x.op=5
 ·rw[if_pos h5]
  refine⟨?_,?_⟩
  ·have hs:za5 5=some (5,[106,97],true,false):=by decide
   unfold zaV at h ⊢
   simp only[h5,hs,Bool.true_or,Bool.true_and] at h ⊢
   exact h
  ·simp[zbc,h5]
 ·rw[if_neg h5]
  by_cases hb:isBr x.op=true
  ·rw[if_pos hb]
   obtain⟨b1,b2,b3,b4⟩:=hbo hb
   have:=hadl x.jt.toNat
   have:=hadl x.jf.toNat
   refine⟨?_,?_⟩
   ·unfold zaV at h ⊢
    simp only at h ⊢
    split at h
    ·rename_i r hsr
     simp only[hsr,Bool.and_eq_true] at h ⊢
     refine⟨h.1,?_⟩
     have key:∀ r∈zaD,isBr r.1=r.2.2.2:=by decide
     obtain⟨q1,q2⟩:=zcX hsr
     have:=key r q2
     rw[q1,hb] at this
     rw[←this]
     simp only[if_true,decide_eq_true_eq]
     omega
    ·cases h
   ·have hn:∀ p∈[21,37,53,69,29,45,61,(77:Int)],p≠32∧p≠52∧¬(p=2∨p=3∨p=96∨p=97)∧¬(p=100∨p=116):=by decide
    obtain⟨n1,n2,n3,n4⟩:=hn _ (by simpa[isBr] using hb)
    simp only[zbc,n1,n2,n3,n4,if_false]
  ·rw[if_neg hb]; exact⟨h,hr⟩
theorem zh0(a e less i:Nat)(x:In4):(putI a e less i x).op=x.op:=by
 unfold putI
 split
 ·rfl
 ·split<;>rfl
theorem zsc{x:In4}(h:zaC x=true)(left:Nat):oneB x left=true:=by
 simp only[zaC,Bool.and_eq_true] at h
 rw[zi7 h.1.1,h.1.2,h.2]; rfl
theorem zfa{w:List In4}(h:winB w=true):∀ x∈w,zaC x=true:=by
 simp only[winB,Bool.and_eq_true,List.all_eq_true] at h
 exact h.2
theorem zm2{f:List In4}{a n:Nat}(hs:zap f=true)(hf:zb5 f a n=true)(hn:0<n)(hbd:a+n≤f.length):a+n<f.length:=by
 by_cases h:a+n<f.length
 ·exact h
 ·exfalso
  have hg:f[a+n-1]?=some (f[a+n-1]'(by omega)):=List.getElem?_eq_getElem (by omega)
  obtain⟨_,h2,_⟩:=zei hs hg
  have hm:f[a+n-1]'(by omega)∈(f.drop a).take n:=by
   refine List.mem_of_getElem? (i:=n-1) ?_
   rw[List.getElem?_take,if_pos (by omega),List.getElem?_drop,show a+(n-1)=a+n-1 by omega]
   exact hg
  simp only[zb5,Bool.and_eq_true] at hf
  have hp:=zfa hf.1 _ hm
  simp only[zaC,Bool.and_eq_true] at hp
  have:=h2 (zij hp.1.1).2.2
  omega
theorem zsd{f:List In4}{a n:Nat}(hf:zb5 f a n=true){i:Nat}{x:In4}(hg:f[i]?=some x){t:Nat}(h1:a<t)(h2:t<a+n):zdY x i t=false:=by
 simp only[zb5,Bool.and_eq_true,zeI,List.all_eq_true,List.mem_range,Bool.not_eq_true'] at hf
 have:=hf.2 (t-a-1) (by omega)
 rw[show a+1+(t-a-1)=t by omega,hitB,←Bool.not_eq_true,List.any_eq_true] at this
 rw[←Bool.not_eq_true]
 intro h
 refine this ⟨i,List.mem_range.2 (List.getElem?_eq_some_iff.1 hg).1,?_⟩
 rw[List.getD,hg]; exact h
theorem zkY{f w:List In4}{a n:Nat}(hbd:a+n≤f.length):(putL f a n w).length=f.length-n+w.length:=by
 simp only[putL,List.length_append,zep,List.length_drop]; omega
theorem zse{f w:List In4}{a n:Nat}(hs:zap f=true)(hf:zb5 f a n=true)(hn:0<n)(hbd:a+n≤f.length)(hw:winB w=true)(hwn:w.length≤n):zap (putL f a n w)=true:=by
 have hlast:=zm2 hs hf hn hbd
 have hL:=zkY (w:=w) hbd
 have hl:=ze9 hs
 have h1:zaL (putL f a n w)=true:=by
  refine zol fun i x hx=>?_
  rw[hL]
  by_cases hia:i<a
  ·rw[putL,List.append_assoc,List.getElem?_append_left (by rw[zep]; exact hia)] at hx
   have hg:f[i]?=some (f[i]'(by omega)):=List.getElem?_eq_getElem (by omega)
   obtain⟨y,hy⟩:∃ y,y=f[i]'(by omega):=⟨_,rfl⟩
   rw[←hy] at hg
   have hx2:x=putI a (a+n) (n-w.length) i y:=by
    rw[pre,List.getElem?_map,List.getElem?_range hia] at hx
    simp only[Option.map_some,Option.some.injEq] at hx
    rw[←hx,List.getD,hg]; rfl
   subst hx2
   have ho:=(zei hs hg).1
   simp only[oneB,Bool.and_eq_true] at ho
   obtain⟨⟨⟨o1,o2⟩,o3⟩,o4⟩:=ho
   obtain⟨r1,r2⟩:=zsb a (a+n) (n-w.length) i o1 o2
   have hbo:=zb3 o1
   rw[oneB,zh0,r1,r2]
   have tgt:∀ d:Nat,zdY y i (i+1+d)=true→i+1+d<f.length→adjN a (a+n) (n-w.length) i d<f.length-n+w.length-1-i:=by
    intro d hj hd
    have hnh:¬(a<i+1+d∧i+1+d<a+n):=fun⟨h1,h2⟩=>by rw[zsd hf hg h1 h2] at hj; cases hj
    unfold adjN
    split<;>omega
   by_cases h5:y.op=5
   ·have hb:isBr y.op=false:=by rw[h5]; decide
    rw[if_pos h5,decide_eq_true_eq] at o3
    have:=tgt y.k (by simp[zdY,h5]) (by omega)
    simp only[hb,h5,if_true,Bool.true_and,Bool.false_eq_true,if_false,Bool.and_true,decide_eq_true_eq,show isBr 5=false by decide]
    simp only[putI,h5,if_true]
    exact this
   ·cases hb:isBr y.op
    ·simp[h5]
    ·obtain⟨b1,b2,b3,b4⟩:=hbo hb
     rw[if_pos hb,decide_eq_true_eq] at o4
     have t1:=tgt y.jt.toNat (by simp[zdY,h5,hb]) (by omega)
     have t2:=tgt y.jf.toNat (by simp[zdY,h5,hb]) (by omega)
     simp only[h5,hb,if_false,if_true,Bool.true_and,decide_eq_true_eq]
     simp only[putI,h5,hb,if_false,if_true]
     omega
  ·rw[putL,List.append_assoc,List.getElem?_append_right (by rw[zep]; omega),zep] at hx
   by_cases hiw:i-a<w.length
   ·rw[List.getElem?_append_left hiw] at hx
    exact zsc (zfa hw x (List.mem_of_getElem? hx)) _
   ·rw[List.getElem?_append_right (by omega),List.getElem?_drop] at hx
    have ho:=(zei hs hx).1
    rw[←ho]; congr 1
    have:=(List.getElem?_eq_some_iff.1 hx).1
    omega
 have h2:endB (putL f a n w)=true:=by
  have he:endB f=true:=by simp only[zap,Bool.and_eq_true] at hs; exact hs.2
  have hne:f.drop (a+n)≠[]:=by
   intro h
   have:=congrArg List.length h
   rw[List.length_drop] at this; simp at this; omega
  have:(putL f a n w).getLast?=f.getLast?:=by
   rw[putL,List.getLast?_append,List.getLast?_drop,if_neg (by omega)]
   cases hq:f.getLast? with
   | none=>simp only[endB,hq] at he; cases he
   | some z=>rfl
  simp only[endB,this]
  exact he
 have h3:(putL f a n w).length≤4096:=by rw[hL]; omega
 simp[zap,h1,h2,h3]
theorem zAj{f w:List In4}{a n:Nat}(hk:∀ x∈f,x.k<4294967296)(hkw:∀ x∈w,x.k<4294967296):∀ x∈putL f a n w,x.k<4294967296:=by
 intro x hx
 simp only[putL,List.mem_append] at hx
 rcases hx with(hx|hx)|hx
 ·simp only[pre,List.mem_map,List.mem_range] at hx
  obtain⟨i,hi,rfl⟩:=hx
  have hy:(f.getD i RET).k<4294967296:=by
   rw[List.getD]
   cases hg:f[i]? with
   | none=>decide
   | some z=>exact hk z (List.mem_of_getElem? hg)
  generalize f.getD i RET=y at hy
  have hadl:∀ d:Nat,adjN a (a+n) (n-w.length) i d≤d:=fun d=>by unfold adjN; split<;>omega
  unfold putI
  split
  ·have:=hadl y.k; simp only; omega
  ·split<;>exact hy
 ·exact hkw x hx
 ·exact hk x (List.mem_of_mem_drop hx)
end Go.Ev
/- A filter in which another window was put, run: plain. -/
namespace Go.Ev
open Go Go.RowKit
theorem zfY{x:In4}(h:zaC x=true):x.op≠5∧isBr x.op=false∧x.op≠6∧x.op≠22:=by
 simp only[zaC,Bool.and_eq_true] at h
 obtain⟨h1,h2,h3⟩:=zij h.1.1
 simp only[zay,decide_eq_false_iff_not,not_or] at h3
 exact⟨h1,h2,h3.1,h3.2⟩
theorem zq3{x:In4}(h:zaC x=true)(s:St):goes s x=0:=by
 obtain⟨h1,h2,_⟩:=zfY h
 simp[goes,h1,h2]
theorem zmg(d:Da)(g:List In4):∀(w:List In4) (s:St),(∀ x∈w,zaC x=true) →
  run d (w++g) s=if(runW d w s).2<w.length then(0,(runW d w s).2+1) else((run d g (runW d w s).1).1,w.length+(run d g (runW d w s).1).2)
 | [],s,_=>by simp[runW]
 | x::w,s,h=>by
  have hx:=h x (by simp)
  obtain⟨h5,hb,h6,h22⟩:=zfY hx
  have ih:=zmg d g w (zaw s x d).1 fun y hy=>h y (by simp[hy])
  rw[List.cons_append,zej,if_neg h6,if_neg h22,zq3 hx,List.drop_zero]
  by_cases hg:(zaw s x d).2=true
  ·rw[if_pos hg,ih]
   simp only[runW,hg,if_true,List.length_cons]
   by_cases hl:(runW d w (zaw s x d).1).2<w.length
   ·rw[if_pos hl,if_pos (by omega)]
   ·rw[if_neg hl,if_neg (by omega)]
    simp only[Prod.mk.injEq,true_and]
    omega
  ·rw[if_neg hg]
   simp only[runW,hg,if_false,List.length_cons,Bool.false_eq_true]
   rw[if_pos (by omega)]
theorem zm3{d:Da}:∀(w:List In4) (s:St),(∀ x∈w,zaC x=true)→(runW d w s).2<w.length→0<divN w w.length
 | [],s,_,h=>by simp[runW] at h
 | x::w,s,hp,h=>by
  rw[List.length_cons,zeA]
  by_cases hg:(zaw s x d).2=true
  ·have:=zm3 (d:=d) w (zaw s x d).1 (fun y hy=>hp y (by simp[hy])) (by simp only[runW,hg,if_true,List.length_cons] at h; omega)
   omega
  ·have:=(zo4 (hp x (by simp)) (by simpa using hg)).1
   rw[if_pos this]; omega
theorem ztR(a e less i:Nat)(s:St)(x:In4)(d:Da):zaw s (putI a e less i x) d=zaw s x d:=by
 by_cases h5:x.op=5
 ·have e1:aluT (5:Int)=(0,false,false):=by decide
  have e2:(putI a e less i x).op=5:=by rw[zh0,h5]
  have o:∀ y:In4,y.op=5→zaw s y d=(s,true):=fun y hy=>by
   simp only[zaw,hy,e1,Bool.false_eq_true,if_false,zaX]
   simp
  rw[o _ e2,o _ h5]
 ·unfold putI
  rw[if_neg h5]
  split<;>rfl
theorem goes_put(a e less i:Nat)(s:St){x:In4}(h:zay x.op=false)(hi:i<a):goes s (putI a e less i x)=adjN a e less i (goes s x)∨goes s x=0∧goes s (putI a e less i x)=0:=by
 have ho:=zh0 a e less i x
 by_cases h5:x.op=5
 ·left
  simp only[goes,ho,h5,if_true]
  simp[putI,h5]
 by_cases hb:isBr x.op=true
 ·left
  have hp:putI a e less i x={ x with jt:=(adjN a e less i x.jt.toNat:Nat),jf:=(adjN a e less i x.jf.toNat:Nat) }:=by rw[putI,if_neg h5,if_pos hb]
  have ht:takesB s (putI a e less i x)=takesB s x:=by rw[hp]; rfl
  simp only[goes,ho,if_neg h5,hb,if_true,ht]
  rw[hp]
  cases takesB s x<;>simp
 ·right
  simp[goes,ho,h5,hb]
theorem zwM(g:List In4):bh g [0]=nd g:=by
 funext p
 simp[bh]
theorem zkE{f w:List In4}{a n t:Nat}(ht:t<a){x:In4}(hx:f[t]?=some x):(putL f a n w).drop t=putI a (a+n) (n-w.length) t x::(putL f a n w).drop (t+1):=by
 have hg:(putL f a n w)[t]?=some (putI a (a+n) (n-w.length) t x):=by
  rw[putL,List.append_assoc,List.getElem?_append_left (by rw[zep]; exact ht),pre,List.getElem?_map,List.getElem?_range ht]
  simp[List.getD,hx]
 obtain⟨hl,e⟩:=List.getElem?_eq_some_iff.1 hg
 rw[List.drop_eq_getElem_cons hl,e]
theorem zmh(f w:List In4)(a n:Nat):(putL f a n w).drop a=w++f.drop (a+n):=by
 rw[putL,List.append_assoc,List.drop_left' (zep _ _ _ _ _)]
theorem zkF{f w:List In4}{a n t:Nat}(hw:w.length≤n)(h:a+n≤t):(putL f a n w).drop (t-(n-w.length))=f.drop t:=by
 have e:t-(n-w.length)=a+(w.length+(t-(a+n))):=by omega
 rw[e,←List.drop_drop,zmh,←List.drop_drop,List.drop_left' rfl,List.drop_drop]
 congr 1
 omega
theorem zom{s:St}{d:Da}(hs:s.ok){i:Nat}(hi:i<18):(asgL s d).getD i 0=part s i:=by
 have hl:=hs.2.2.1
 match i,hi with
 | 0,_=>rfl
 | 1,_=>rfl
 | i+2,h =>
  simp only[asgL,part]
  rw[List.getD_eq_getElem?_getD,List.getElem?_cons_succ,List.getElem?_cons_succ,List.getElem?_append_left (by omega),←List.getD_eq_getElem?_getD]
theorem zlx{f w:List In4}{a n live:Nat}{d:Da}(hs:zap f=true)(hf:zb5 f a n=true)(hn:0<n)(hbd:a+n≤f.length)(hw:winB w=true)(hwn:w.length≤n)
  (hk:∀ x∈f,x.k<4294967296) (hkw:∀ x∈w,x.k<4294967296) (hd:d.ok) (hlv:∀ p<18,nd (f.drop (a+n)) p=true→zdH live p=true)
  (hdf:∀ s:St,s.ok→zcw ((f.drop a).take n) w live s d=false) :
  ∀(m t:Nat) (s:St),f.length-t≤m→t<f.length→(t≤a∨a+n≤t)→s.ok →
   (run d ((putL f a n w).drop (if t≤a then t else t-(n-w.length))) s).1=(run d (f.drop t) s).1 ∧
   ((run d ((putL f a n w).drop (if t≤a then t else t-(n-w.length))) s).2≤(run d (f.drop t) s).2∨0<divN ((f.drop a).take n) n)
 | 0,t,s,h1,h2,_,_=>by omega
 | m+1,t,s,h1,h2,h3,hso=>by
  have hPl:((f.drop a).take n).length=n:=by rw[List.length_take,List.length_drop]; omega
  by_cases hta:t≤a
  case neg =>
   have h4:a+n≤t:=by omega
   rw[if_neg hta,zkF hwn h4]
   exact⟨rfl,.inl (Nat.le_refl _)⟩
  rw[if_pos hta]
  by_cases hte:t=a
  ·subst hte
   have hp:∀ x∈(f.drop t).take n,zaC x=true:=by
    simp only[zb5,Bool.and_eq_true] at hf
    exact zfa hf.1
   have e1:f.drop t=(f.drop t).take n++f.drop (t+n):=by rw[←List.drop_drop,List.take_append_drop]
   have hD:=hdf s hso
   have n1:=zex d ((f.drop t).take n) s
   have n2:=zex d w s
   have r1:=zmg d (f.drop (t+n)) ((f.drop t).take n) s hp
   rw[←e1,hPl] at r1
   rw[hPl] at n1
   rw[zmh,r1,zmg d _ w s (zfa hw)]
   unfold zcw at hD
   rw[hPl] at hD
   by_cases c1:(runW d ((f.drop t).take n) s).2<n
   ·have c2:(runW d w s).2<w.length:=by
     rw[if_pos (.inl c1)] at hD
     simpa[c1] using hD
    rw[if_pos c1,if_pos c2]
    refine⟨rfl,.inr ?_⟩
    have:=zm3 ((f.drop t).take n) s hp (by rw[hPl]; exact c1)
    rwa[hPl] at this
   ·have c2:¬(runW d w s).2<w.length:=fun c2=>by
     rw[if_pos (.inr c2)] at hD
     simp[c1,c2] at hD
    rw[if_neg (by simp[c1,c2])] at hD
    rw[if_neg c1,if_neg c2]
    have o1:=zey hd _ s hso (zj4 hk t n)
    have o2:=zey hd _ s hso hkw
    have ag:=znh d hd _ (f.drop (t+n)) (runW d w s).1 (runW d ((f.drop t).take n) s).1 (Nat.le_refl _) o2 o1 (fun x hx=>hk x (List.mem_of_mem_drop hx)) fun p hp18 hnd=>by
     have hb:=hlv p hp18 hnd
     rcases Bool.eq_false_or_eq_true (zcv live (asgL (runW d ((f.drop t).take n) s).1 d) (asgL (runW d w s).1 d) p) with h|h
     ·rw[zlV hp18 h] at hD; cases hD
     ·rw[zcv,hb,Bool.true_and,bne_eq_false_iff_eq,zom o1 hp18,zom o2 hp18] at h
      exact h.symm
    rw[ag]
    exact⟨rfl,.inl (by simp only; omega)⟩
  ·have hlt:t<a:=by omega
   obtain⟨x,hx⟩:∃ x,f[t]?=some x:=⟨_,List.getElem?_eq_getElem h2⟩
   have e1:f.drop t=x::f.drop (t+1):=by
    obtain⟨hl,e⟩:=List.getElem?_eq_some_iff.1 hx
    rw[List.drop_eq_getElem_cons hl,e]
   rw[zkE hlt hx,e1,zej,zej,zh0,ztR]
   by_cases h6:x.op=6
   ·have:(putI a (a+n) (n-w.length) t x).k=x.k:=by
     have:isBr (6:Int)=false:=by decide
     simp[putI,h6,this]
    rw[if_pos h6,if_pos h6,this]
    exact⟨rfl,.inl (Nat.le_refl _)⟩
   rw[if_neg h6,if_neg h6]
   by_cases h22:x.op=22
   ·rw[if_pos h22,if_pos h22]
    exact⟨rfl,.inl (Nat.le_refl _)⟩
   rw[if_neg h22,if_neg h22]
   by_cases hg:(zaw s x d).2=true
   case neg =>
    rw[if_neg hg,if_neg hg]
    exact⟨rfl,.inl (Nat.le_refl _)⟩
   rw[if_pos hg,if_pos hg]
   have he:zay x.op=false:=by simp[zay,h6,h22]
   have hgo:=zjH he s
   have hT:=zcW hs hx hgo
   obtain⟨q,hq⟩:∃ q,q=goes s x:=⟨_,rfl⟩
   rw[←hq] at hgo hT ⊢
   have hout:t+1+q≤a∨a+n≤t+1+q:=by
    by_cases hc:t+1+q≤a
    ·exact .inl hc
    ·by_cases hc2:a+n≤t+1+q
     ·exact .inr hc2
     ·exfalso
      have nh:=zsd hf hx (t:=t+1+q) (by omega) (by omega)
      unfold offs at hgo
      rw[he] at hgo
      simp only[Bool.false_eq_true,if_false] at hgo
      unfold zdY at nh
      by_cases h5:x.op=5
      ·rw[if_pos h5,List.mem_singleton] at hgo
       rw[if_pos h5,hgo] at nh
       simp at nh
      ·rw[if_neg h5] at hgo nh
       cases hb:isBr x.op with
       | true =>
        rw[hb] at hgo nh
        simp only[if_true,List.mem_cons,List.not_mem_nil,or_false] at hgo
        simp only[Bool.true_and,Bool.or_eq_false_iff,decide_eq_false_iff_not] at nh
        omega
       | false =>
        rw[hb] at hgo
        simp only[Bool.false_eq_true,if_false,List.mem_singleton] at hgo
        omega
   have ih:=zlx hs hf hn hbd hw hwn hk hkw hd hlv hdf m (t+1+q) (zaw s x d).1 (by omega) hT hout (zeo hso (hk x (List.mem_of_getElem? hx)) hd)
   have hsh:t+1+goes s (putI a (a+n) (n-w.length) t x)=if t+1+q≤a then t+1+q else t+1+q-(n-w.length):=by
    rcases goes_put a (a+n) (n-w.length) t s he hlt with h|⟨h,h'⟩
    ·rw[h,←hq,adjN]
     rcases hout with hc|hc
     ·rw[if_pos hc,if_neg (by omega)]
     ·rw[if_pos ⟨hlt,hc⟩,if_neg (by omega)]; omega
    ·rw[h']
     rw[←hq] at h
     rw[h] at hout ⊢
     rw[if_pos (by omega)]
   rw[List.drop_drop,List.drop_drop,hsh]
   refine⟨ih.1,?_⟩
   rcases ih.2 with h|h
   ·left; simp only; omega
   ·exact .inr h
end Go.Ev
