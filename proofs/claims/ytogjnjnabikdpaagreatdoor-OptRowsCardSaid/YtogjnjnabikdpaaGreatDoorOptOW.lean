/- Filters made shorter: a round. -/
import Derived.Test.YtogjnjnabikdpaaGreatDoorSrcBW
import Derived.Test.YtogjnjnabikdpaaGreatDoorDecTW
import Derived.Test.YtogjnjnabikdpaaGreatDoorEvInsCW
import Derived.Test.YtogjnjnabikdpaaGreatDoorLiveCW
import Derived.Test.YtogjnjnabikdpaaGreatDoorEvSrcCW
import Derived.Test.YtogjnjnabikdpaaGreatDoorCheckBW
set_option linter.unusedSimpArgs false
set_option linter.unusedVariables false
set_option maxHeartbeats 8000000
set_option maxRecDepth 10000
namespace Go.Ev
open Go Go.RowKit
variable {G:Tbl}
def ResC(f:List In4)(t:List TR)(n:Nat)(d:Bool):List V:=[FL f,TF t,.int .i64 n,.bool d]
def rndV(f:List In4)(t:List TR):Option (List In4×List TR)→V
 | some q=>.tup [.agg (ResC q.1 q.2 1 false),.bool true]
 | none=>.tup [.agg (ResC f t 0 true),.bool false]
def zmg(t:List TR):Prop:=t.length≤1000000∧∀ r∈t,r.ok
theorem zry[HasWd G][HasNeg G][HasIns G][HasCheck G][HasData G][HasWith G][HasStep G][HasWRight G][HasWinRun G][HasWinAsg G][HasWinState G][HasWinOf G][HasAffApart G][HasAffine G][hBA:HasBitsA G][HasSymNew G][HasSym G][HasSymEval G][HasSymApart G][HasDecDf G][HasDec G][HasSrcN G][HasSrcL G][HasSrcC G][HasSrcF G][HasTells G][HasLive G][HasSpl G][HasEnc G][HasTbl G][HasOpt G]
  (f:List In4) (t:List TR) (rnds tries most:Int) (hs:zao f=true) (hk:∀ x∈f,x.k<4294967296) (ht:zmg t) (hm:0≤most∧most≤32) :
  FP G 364 [FL f,TF t,.agg [.int .i64 rnds,.int .i64 tries,.int .i64 most]] (rndV f t (zbM f t tries most)):=by
 refine zak HasOpt.h_opt_round (Nat.le_of_ble_eq_true rfl) ?_
 have hL4:=zcg hs
 have hfm:f.length≤maxLen:=Nat.le_trans hL4 (by decide)
 have hpc:=zr9 (G:=G) f most hfm hk (by omega)
 obtain⟨L,hL⟩:∃ L,L=rows f most f.length:=⟨_,rfl⟩
 have hLl:L.length≤200000:=by
  have:=zg8 f most f.length
  rw[hL]; omega
 rw[←hL] at hpc
 have hR:zbM f t tries most=L.findSome? (tryP f t tries):=by rw[zbM,hL]
 simp only[FL] at hpc
 simp[FL,TF]
 refine zab hpc ?_
 simp
 refine W_up L.length (fun i=>[(0,FL f),(1,TF t),(5,.ptr 0 0),(6,.ptr 1 0),(24,.vs (zcF L) .no),(25,.int .i64 L.length),(26,.int .i64 i)])
  (fun _=>[some (.cells [.int .i64 rnds,.int .i64 tries,.int .i64 most]),some (.cells [.vs [] .full,.vs [] .full,.int .i64 0,.bool false])]) (fun i=>∀ j<i,∀ p,L[j]?=some p→tryP f t tries p=none) ?_ ?_
 ·simp[zaa,zac,FL,TF]
 intro i hi hP
 by_cases hlt:i<L.length
 ·obtain⟨p,hfp⟩:∃ p,p=L[i]:=⟨_,rfl⟩
  have hg:L[i]?=some p:=by rw[hfp]; exact List.getElem?_eq_getElem hlt
  have hpm:p∈rows f most f.length:=by rw[←hL]; exact List.mem_of_getElem? hg
  obtain⟨hpa,hc,h2,h32⟩:=ziO hpm
  have hc':=hc
  simp only[cnd,Bool.and_eq_true] at hc'
  have hfz:=hc'.2
  simp only[cnd,zcj,zbc,inB,Bool.and_eq_true,decide_eq_true_eq] at hc
  obtain⟨⟨_,_⟩,_,⟨i1,i2,i3,i4⟩,hfn⟩:=hc
  have hfn:zbQ f p.1 p.2=true:=by simpa using hfn
  obtain⟨a,n⟩:=p
  simp only at hpa h2 h32 hfn i1 i2 i3 i4 hfz
  have hbd:a+n≤f.length:=by omega
  obtain⟨x,hx⟩:∃ x,f[a+n-1]?=some x:=⟨_,List.getElem?_eq_getElem (by omega)⟩
  have hbh:=znA (G:=G) f (a+n-1) x hx hk hs
  have hpl:∀ x∈(f.drop a).take n,zaJ x=true:=by
   simp only[zbQ,Bool.and_eq_true] at hfn
   exact zks hfn.1
  have hpx:zaJ x=true:=hpl x (by
   refine List.mem_of_getElem? (i:=n-1) ?_
   rw[List.getElem?_take,if_pos (by omega),List.getElem?_drop,show a+(n-1)=a+n-1 by omega]
   exact hx)
  have hox:offs x=[0]:=by
   obtain⟨h5,hbr,h6,h22⟩:=zni hpx
   simp[offs,zax,h5,hbr,h6,h22]
  rw[hox,zsf,show a+n-1+1=a+n by omega] at hbh
  obtain⟨live,hlv⟩:∃ live,live=zkQ f a n:=⟨_,rfl⟩
  have hlv32:live<4294967296:=by rw[hlv]; exact Nat.lt_of_lt_of_le (zbi _ 18) (by decide)
  rw[show zat (nd (f.drop (a+n))) 18=live from hlv.symm] at hbh
  obtain⟨P,hPe⟩:∃ P,P=zb9 f a n:=⟨_,rfl⟩
  have hPl:P.length=n:=by rw[hPe,zb9,List.length_take,List.length_drop]; omega
  have hPk:∀ y∈P,y.k<4294967296:=by rw[hPe]; exact zio hk a n
  have hPw:winB P=true:=by
   rw[hPe,zb9]
   simp only[zbQ,Bool.and_eq_true] at hfn
   exact hfn.1
  have hsh:=zrF (G:=G) P t live tries hPw hPk ht.1 ht.2 hlv32
  have e1:addI .i64 (a:Int) (n:Int)=((a+n:Nat):Int):=addN (by omega)
  have e2:subI .i64 ((a+n:Nat):Int) 1=((a+n-1:Nat):Int):=by rw[zaK]<;>omega
  have hslice:((IL f).drop a).take n=IL P:=by rw[zg0,zg1,hPe,zb9]
  have hslice2:((IL f).take (a+n)).drop a=IL P:=by rw[zg1,zg0,hPe,zb9,List.drop_take]; congr 2; omega
  have hslice3:((IL f).drop a).take (a+n-a)=IL P:=by rw[show a+n-a=n by omega]; exact hslice
  have hre:L[i]=(a,n):=hfp.symm
  have c1:((a:Int)≤((a+n:Nat):Int))=True:=eq_true (by omega)
  have c2:(((a+n:Nat):Int)≤(f.length:Int))=True:=eq_true (by omega)
  have htp:tryP f t tries (a,n)=(zbl P t live tries).map fun x=>(putL f a n x,(zaD t ⟨P,x,live⟩).1):=by
   rw[tryP,←hPe,←hlv]
  simp only[FL,TF] at hbh hsh
  simp(disch:=omega)[ltT,leTn,hre,FL,TF,e1,e2,c1,c2,hslice3,-Int.natCast_add]
  refine zab hbh ?_
  simp(disch:=omega)[hslice]
  refine zab hsh ?_
  cases hsr:zbl P t live tries with
  | none =>
   have hP2:∀ j<i+1,∀ p,L[j]?=some p→tryP f t tries p=none:=fun j hj p hp=>by
    rcases Nat.lt_succ_iff_lt_or_eq.1 hj with h|rfl
    ·exact hP j h p hp
    ·rw[hg] at hp; cases hp
     rw[htp,hsr]; rfl
   simp(disch:=omega)[fndV,hlt,zag,zaa,zac,FL,TF,-Int.natCast_add]
   exact fun j hj p q hp=>hP2 j hj (p,q) hp
  | some y =>
   obtain⟨w1,w2,w3,w4⟩:=zlC hPk hPw (fun r hr=>(ht.2 r hr).2.2.2.1) hsr
   have hy32:=(zcz w1).1
   have hokp:zhE f a n y=true:=by simp only[zhE,hfz,w1,Bool.true_and,decide_eq_true_eq]; omega
   have hput:=zw1 (G:=G) f y a n hfm (Nat.le_trans hy32 (by decide)) hk w4 hokp
   obtain⟨r,hr⟩:∃ r:TR,r=⟨P,y,live⟩:=⟨_,rfl⟩
   have hrk:r.ok:=by
    rw[hr]
    exact⟨Nat.le_trans (show P.length≤32 by omega) (by decide),Nat.le_trans hy32 (by decide),hPk,w4,hlv32⟩
   have hln:=zhV (G:=G) t r ht.1 ht.2 hrk
   have hrv:TV r=.agg [.vs (IL P) .no,.vs (IL y) .no,.int .u32 live]:=by rw[hr]; rfl
   rw[hrv] at hln
   have hRq:zbM f t tries most=some (putL f a n y,(zaD t r).1):=by
    rw[hR]
    have hsplit:L=L.take i++(a,n)::L.drop (i+1):=by
     have:=List.drop_eq_getElem_cons hlt
     rw[hre] at this
     rw[←this,List.take_append_drop]
    exact List.findSome?_eq_some_iff.2 ⟨L.take i,(a,n),L.drop (i+1),hsplit,by rw[htp,hsr,hr]; rfl,fun p hp=>by
     obtain⟨j,hj⟩:=List.getElem?_of_mem hp
     rw[List.getElem?_take] at hj
     split at hj
     ·rename_i hji; exact hP j hji p hj
     ·cases hj⟩
   rw[hRq]
   simp only[FL,TF] at hput hln
   simp[fndV]
   refine zab hput ?_
   simp
   refine zab hln ?_
   by_cases he:(zaD t r).2=0
   ·have he':((zaD t r).2==0)=true:=by simp[he]
    simp[he',rndV,ResC,FL,TF]
   ·have he':((zaD t r).2==0)=false:=beqF he
    have hsame:(zaD t r).1=t:=by
     unfold zaD at he ⊢
     split
     ·split
      ·rfl
      ·split
       ·rfl
       ·rename_i g1 g2 g3
        rw[if_pos g1,if_neg g2,if_neg g3] at he
        exact absurd rfl he
     ·rfl
    simp[he',hsame,rndV,ResC,FL,TF]
 ·have hne:i=L.length:=by omega
  subst hne
  have hnone:zbM f t tries most=none:=by
   rw[hR,List.findSome?_eq_none_iff]
   intro p hp
   obtain⟨j,hj⟩:=List.getElem?_of_mem hp
   exact hP j (List.getElem?_eq_some_iff.1 hj).1 p hj
  rw[hnone]
  simp[rndV,ResC,FL,TF]
end Go.Ev
/- Which places are come to: a walk, plain. -/
namespace Go.Ev
open Go Go.RowKit
def zcc(f:List In4)(a:Nat)(m:List Bool):List Bool :=
 if h:a<f.length then
  if m.getD a false=true then m
  else if zax (f[a]'h).op=true then m.set a true
  else if(f[a]'h).op=5 then zcc f (a+1+(f[a]'h).k) (m.set a true)
  else if isBr (f[a]'h).op=true then zcc f (a+1+(f[a]'h).jf.toNat) (zcc f (a+1+(f[a]'h).jt.toNat) (m.set a true))
  else zcc f (a+1) (m.set a true)
 else m
termination_by f.length-a
def isT(m:List Bool)(i:Nat):Prop:=m[i]?=some true
structure Mt (f:List In4) (a:Nat) (m m':List Bool):Prop where
 len:m'.length=m.length
 mono:∀ i,isT m i→isT m' i
 at':isT m' a
 cls:∀ i x,isT m' i→¬isT m i→f[i]?=some x→∀ o∈offs x,isT m' (i+1+o)
 min:∀ i,isT m' i→¬isT m i→i=a∨∃ j x o,f[j]?=some x∧isT m' j∧o∈offs x∧j+1+o=i
theorem zg6{m:List Bool}{a i:Nat}(ha:a<m.length):isT (m.set a true) i↔i=a∨isT m i:=by
 unfold isT
 by_cases e:a=i
 ·subst e; rw[List.getElem?_set_self ha]; simp
 ·rw[List.getElem?_set_ne e]
  constructor
  ·exact .inr
  ·rintro(h|h)
   ·exact absurd h.symm e
   ·exact h
theorem Mt.refl{f:List In4}{a:Nat}{m:List Bool}(h:isT m a):Mt f a m m:=⟨rfl,fun _ h=>h,h,fun i x h1 h2=>absurd h1 h2,fun i h1 h2=>absurd h1 h2⟩
theorem Mt.one{f:List In4}{a:Nat}{m m':List Bool}{x:In4}(ha:a<m.length)(hx:f[a]?=some x)(hl:m'.length=m.length)(mono:∀ i,isT (m.set a true) i→isT m' i)
  (nx:∀ o∈offs x,isT m' (a+1+o)) (cls:∀ i y,isT m' i→¬isT (m.set a true) i→f[i]?=some y→∀ o∈offs y,isT m' (i+1+o))
  (min:∀ i,isT m' i→¬isT (m.set a true) i→∃ j y o,f[j]?=some y∧isT m' j∧o∈offs y∧j+1+o=i):Mt f a m m':=by
 have h1:isT m' a:=mono a ((zg6 ha).2 (.inl rfl))
 refine⟨hl,fun i hi=>mono i ((zg6 ha).2 (.inr hi)),h1,fun i y hi hn hy=>?_,fun i hi hn=>?_⟩
 ·by_cases e:i=a
  ·subst e
   rw[hx] at hy; cases hy
   exact nx
  ·exact cls i y hi (fun h=>((zg6 ha).1 h).elim e hn) hy
 ·by_cases e:i=a
  ·exact .inl e
  ·exact .inr (min i hi fun h=>((zg6 ha).1 h).elim e hn)
theorem ziA{f:List In4}(hs:zao f=true):∀(n a:Nat) (m:List Bool),f.length-a≤n→a<f.length→m.length=f.length→Mt f a m (zcc f a m)
 | 0,a,m,h1,h2,_=>by omega
 | n+1,a,m,h1,h2,h3=>by
  have hx:f[a]?=some f[a]:=List.getElem?_eq_getElem h2
  have ho:=fun o h=>zcw (o:=o) hs hx h
  obtain⟨x,hxe⟩:∃ x,x=f[a]:=⟨_,rfl⟩
  rw[←hxe] at hx ho
  rw[zcc,dif_pos h2,←hxe]
  by_cases hm:m.getD a false=true
  ·rw[if_pos hm]
   refine .refl ?_
   rw[List.getD_eq_getElem?_getD] at hm
   unfold isT
   cases hg:m[a]? with
   | none=>rw[hg] at hm; cases hm
   | some b=>rw[hg] at hm; simp at hm; rw[hm]
  rw[if_neg hm]
  have hal:a<m.length:=by omega
  have hl:(m.set a true).length=f.length:=by rw[List.length_set,h3]
  by_cases he:zax x.op=true
  ·rw[if_pos he]
   refine Mt.one hal hx (by simp) (fun _ h=>h) (fun o h=>?_) (fun i y h1 h2=>absurd h1 h2) (fun i h1 h2=>absurd h1 h2)
   simp[offs,he] at h
  rw[if_neg he]
  have he':zax x.op=false:=by simpa using he
  -- one walk on
  have one:∀ o,offs x=[o]→Mt f a m (zcc f (a+1+o) (m.set a true)):=fun o e=>by
   have hlt:=ho o (by rw[e]; simp)
   have k:=ziA hs n (a+1+o) (m.set a true) (by omega) hlt hl
   refine Mt.one hal hx (by rw[k.len]; simp) k.mono (fun q h=>?_) k.cls (fun i h1 h2=>?_)
   ·rw[e,List.mem_singleton] at h
    subst h; exact k.at'
   ·rcases k.min i h1 h2 with rfl|h
    ·exact⟨a,x,o,hx,k.mono a ((zg6 hal).2 (.inl rfl)),by rw[e]; simp,rfl⟩
    ·exact h
  by_cases h5:x.op=5
  ·rw[if_pos h5]
   have h5e:zax (5:Int)=false:=by decide
   exact one x.k (by simp[offs,h5,h5e])
  rw[if_neg h5]
  by_cases hb:isBr x.op=true
  ·rw[if_pos hb]
   have hof:offs x=[x.jt.toNat,x.jf.toNat]:=by simp[offs,he',h5,hb]
   have k1:=ziA hs n (a+1+x.jt.toNat) (m.set a true) (by omega) (ho _ (by rw[hof]; simp)) hl
   have k2:=ziA hs n (a+1+x.jf.toNat) (zcc f (a+1+x.jt.toNat) (m.set a true)) (by omega) (ho _ (by rw[hof]; simp)) (by rw[k1.len,hl])
   refine Mt.one hal hx (by rw[k2.len,k1.len]; simp) (fun i h=>k2.mono i (k1.mono i h)) (fun q h=>?_) (fun i y h1 h2 hy o ho=>?_) (fun i h1 h2=>?_)
   ·rw[hof] at h
    simp only[List.mem_cons,List.not_mem_nil,or_false] at h
    rcases h with rfl|rfl
    ·exact k2.mono _ k1.at'
    ·exact k2.at'
   ·by_cases hi:isT (zcc f (a+1+x.jt.toNat) (m.set a true)) i
    ·exact k2.mono _ (k1.cls i y hi h2 hy o ho)
    ·exact k2.cls i y h1 hi hy o ho
   ·have ha':isT (zcc f (a+1+x.jf.toNat) (zcc f (a+1+x.jt.toNat) (m.set a true))) a:=k2.mono _ (k1.mono a ((zg6 hal).2 (.inl rfl)))
    by_cases hi:isT (zcc f (a+1+x.jt.toNat) (m.set a true)) i
    ·rcases k1.min i hi h2 with rfl|⟨j,y,o,g1,g2,g3,g4⟩
     ·exact⟨a,x,_,hx,ha',by rw[hof]; simp,rfl⟩
     ·exact⟨j,y,o,g1,k2.mono _ g2,g3,g4⟩
    ·rcases k2.min i h1 hi with rfl|h
     ·exact⟨a,x,_,hx,ha',by rw[hof]; simp,rfl⟩
     ·exact h
  ·rw[if_neg hb]
   have:=one 0 (by simp[offs,he',h5,hb])
   simpa using this
def metR(f:List In4):List Bool:=zcc f 0 (List.replicate f.length false)
theorem zqE:∀{f:List In4} {m:List Bool},f.length=m.length→(∀ i x,isT m i→f[i]?=some x→∀ o∈offs x,isT m (i+1+o))→clsB f m
 | [],[],_,_=>trivial
 | [],_::_,h,_=>by simp at h
 | _::_,[],h,_=>by simp at h
 | x::f,b::m,h,hc=>by
  refine⟨fun hb o ho=>?_,zqE (by simpa using h) fun i y hi hy o ho=>?_⟩
  ·have:=hc 0 x (by rw[hb]; rfl) rfl o ho
   rw[show 0+1+o=o+1 by omega] at this
   exact this
  ·have:=hc (i+1) y hi (by simpa using hy) o ho
   rw[show i+1+1+o=(i+1+o)+1 by omega] at this
   exact this
theorem ziB{f:List In4}(hs:zao f=true):(metR f).length=f.length∧clsB f (metR f)∧(metR f)[0]?=some true∧MinM f (metR f):=by
 have h0:0<f.length:=by
  have:=zlw hs
  cases f with
  | nil=>exact absurd rfl this
  | cons x f=>simp
 have k:=ziA hs f.length 0 (List.replicate f.length false) (by omega) h0 (by simp)
 have no:∀ i,¬isT (List.replicate f.length false) i:=fun i h=>by
  have:=List.mem_of_getElem? h
  rw[List.mem_replicate] at this
  cases this.2
 have hl:(metR f).length=f.length:=by rw[metR,k.len]; simp
 refine⟨hl,zqE hl.symm fun i x hi hx=>k.cls i x hi (no i) hx,k.at',fun i hi hp=>?_⟩
 rcases k.min i hi (no i) with rfl|⟨j,x,o,h1,h2,h3,h4⟩
 ·omega
 ·exact⟨j,x,o,h1,h2,h3,h4⟩
def prune(f:List In4):List In4:=pruR f (metR f)
theorem zph{f:List In4}(hs:zao f=true):zao (prune f)=true∧(prune f).length≤f.length∧AllP (prune f)∧∀ d s,run d (prune f) s=run d f s:=by
 obtain⟨h1,h2,h3,h4⟩:=ziB hs
 refine⟨zsi hs h2 h3,?_,zuS h2 h4,fun d s=>zqh d _ f _ s (Nat.le_refl _) h2 h3⟩
 have:=List.countP_le_length (p:=id) (l:=metR f)
 rw[prune,zfx f _ h1.symm]; omega
theorem zrz{f:List In4}(hs:zao f=true)(ha:AllP f):prune f=f:=by
 obtain⟨h1,h2,h3,h4⟩:=ziB hs
 exact zti hs h2 h3 ha
theorem zmM:∀{f:List In4} {m:List Bool} {y:In4},y∈pruR f m→∃ x∈f,y.op=x.op∧(y.k=x.k∨y.k≤x.k)
 | x::f,true::m,y,h=>by
  rw[pruR,List.mem_cons] at h
  rcases h with rfl|h
  ·refine⟨x,by simp,zg9 m x,?_⟩
   unfold prX
   split
   ·exact .inr (zeM _ _)
   ·split<;>exact .inl rfl
  ·obtain⟨z,h1,h2⟩:=zmM h
   exact⟨z,by simp[h1],h2⟩
 | x::f,false::m,y,h=>by
  rw[pruR] at h
  obtain⟨z,h1,h2⟩:=zmM h
  exact⟨z,by simp[h1],h2⟩
 | [],_,_,h=>by simp[pruR] at h
 | _::_,[],_,h=>by simp[pruR] at h
end Go.Ev
/- What is come to: the walk, by a closure that calls itself. -/
namespace Go.Ev
open Go Go.RowKit
variable {G:Tbl}
def HM(f:List In4)(m:List Bool):Heap:=[some (.cells [FL f]),some (.cells (cb m)),some (.cells [.rs 1 0 f.length 1]),some (.cells [.fn 346 [.ptr 2 0,.ptr 0 0,.ptr 3 0]])]
theorem zww(f:List In4)(m:List Bool):za8 (HM f m):=by
 intro n hn
 simp only[HM,List.length_cons,List.length_nil] at hn
 simp[HM,FL,Blk.cl,clL,V.cl,Tk.cl,show 0<n by omega,show 1<n by omega,show 2<n by omega,show 3<n by omega]
theorem zqF[HasIns G][HasPru G]{f:List In4}(hs:zao f=true)(hk:∀ x∈f,x.k<4294967296)(hf:f.length≤maxLen):∀(n a:Nat) (m:List Bool) (r:Heap),(∀ n,r.map (Option.map (Blk.cl n))=r)→f.length-a≤n→a<f.length→m.length=f.length →
  SF G 346 [.int .i64 a,.ptr 2 0,.ptr 0 0,.ptr 3 0] (HM f m++r) (.tup []) (HM f (zcc f a m)++r)
 | 0,a,m,r,_,h1,h2,_=>by omega
 | n+1,a,m,r,hr,h1,h2,h3=>by
  refine zbz HasPru.h_prune_Met_1 (Nat.le_of_ble_eq_true rfl) ?_
  have nB:∀ m,(HM f m).length=4:=fun m=>rfl
  have g0:∀ m (s:Heap),(HM f m++s)[0]?=some (some (.cells [FL f])):=fun m s=>rfl
  have g1:∀ m (s:Heap),(HM f m++s)[1]?=some (some (.cells (cb m))):=fun m s=>rfl
  have g2:∀ m (s:Heap),(HM f m++s)[2]?=some (some (.cells [.rs 1 0 f.length 1])):=fun m s=>rfl
  have g3:∀ m (s:Heap),(HM f m++s)[3]?=some (some (.cells [.fn 346 [.ptr 2 0,.ptr 0 0,.ptr 3 0]])):=fun m s=>rfl
  have s1:∀ m m' (s:Heap),(HM f m++s).set 1 (some (.cells (cb m')))=HM f m'++s:=fun m m' s=>rfl
  have kk:∀ m (s:Heap),(HM f m++(r++s))[4+r.length]?=s[0]?:=fun m s=>by
   rw[←List.append_assoc]; exact apn0 (by simp[nB])
  have k0:∀ m (s:Heap) y,(HM f m++(r++s)).set (4+r.length) y=HM f m++(r++s.set 0 y):=fun m s y=>by
   rw[←List.append_assoc,zbW (by simp[nB]),List.append_assoc]
  have bk:∀ m (s:Heap),zac (4+r.length) (HM f m++(r++s))=HM f m++r:=fun m s=>by
   have:=((zww f m).app hr).back s
   rw[List.append_assoc,List.length_append,nB] at this
   exact this
  have l0:0<4+r.length:=by omega
  have l2:2<4+r.length:=by omega
  have l3:3<4+r.length:=by omega
  obtain⟨R,hR⟩:∃ R,R=zcc f a m:=⟨_,rfl⟩
  rw[←hR]
  simp[nB]
  refine zfZ (S:=Nat×List Bool) (fun s=>f.length-s.1) (fun s=>[(0,.int .i64 s.1),(1,.ptr 2 0),(2,.ptr 0 0),(3,.ptr 3 0)]) (fun s=>HM f s.2++r) (fun s=>zcc f s.1 s.2=R∧s.1<f.length∧s.2.length=f.length∧a≤s.1) (a,m) ?_ ?_
  ·have:=bk m []
   simp at this
   simp[zaa,nB,this,hR,h2,h3,l0,l2,l3]
  rintro⟨b,u⟩ ⟨hm,hb,hu,hab⟩
  simp only at hm hb hu hab ⊢
  have hx:f[b]?=some f[b]:=List.getElem?_eq_getElem hb
  have ho:=fun o h=>zcw (o:=o) hs hx h
  have hbo:=zdQ hs hx
  obtain⟨x,hxe⟩:∃ x,x=f[b]:=⟨_,rfl⟩
  rw[←hxe] at hx ho hbo
  have hxl:x.cs.length=4:=rfl
  have hxt:x.cs.take 4=x.cs:=rfl
  have hgg:=zaY hb
  rw[←hxe] at hgg
  have hub:u[b]?=some u[b]:=List.getElem?_eq_getElem (by omega)
  obtain⟨t,ht⟩:∃ t,t=u[b]'(by omega):=⟨_,rfl⟩
  rw[←ht] at hub
  have hbu:=zpb u b t hub
  have hset:=ziy u b true (by omega)
  rw[zcc,dif_pos hb,←hxe] at hm
  have hgd:u.getD b false=t:=by rw[List.getD_eq_getElem?_getD,hub]; rfl
  rw[hgd] at hm
  have bu:=bk u []
  simp at bu
  have l5:=hf
  simp only[maxLen] at l5
  cases t with
  | true =>
   rw[if_pos rfl] at hm
   subst hm
   simp(disch:=omega)[nB,g0,g1,g2,g3,hbu,leTn,ltTn,bu]
  | false =>
   rw[if_neg (by simp)] at hm
   simp(disch:=omega)[nB,g0,g1,g2,g3,hbu,leTn,ltTn,hset,s1,FL,hgg,hxl,hxt,kk,k0]
   refine zab (ziG x) ?_
   have x0:(x.cs.drop 0).take 1=[.int .i64 x.op]:=rfl
   have x1:x.cs.tail.take 1=[.int .i64 x.jt]:=rfl
   have x2:(x.cs.drop 2).take 1=[.int .i64 x.jf]:=rfl
   have x3:(x.cs.drop 3).take 1=[.int .u32 (x.k:Int)]:=rfl
   have x0':x.cs.take 1=[.int .i64 x.op]:=rfl
   have kx:∀ n,clL n x.cs=x.cs:=fun n=>by simp[In4.cs,clL,V.cl]
   have hxk:x.k<4294967296:=hk x (by rw[hxe]; exact List.getElem_mem hb)
   have hul:(u.set b true).length=f.length:=by simp[hu]
   obtain⟨U,hU⟩:∃ U,U=u.set b true:=⟨_,rfl⟩
   rw[←hU] at hm hul ⊢
   by_cases he:zax x.op=true
   ·rw[if_pos he] at hm
    subst hm
    simp[he,bk]
   rw[if_neg he] at hm
   have he':zax x.op=false:=by simpa using he
   have nx1:∀{c:Nat},b<c→c<f.length→f.length-c<f.length-b:=fun h1 h2=>by omega
   by_cases h5:x.op=5
   ·rw[if_pos h5] at hm
    have h5e:zax (5:Int)=false:=by decide
    have hlt:=ho x.k (by simp[offs,h5,h5e])
    have c1:zaP .i64 (x.k:Int)=(x.k:Int):=by rw[zda]<;>omega
    have a1:addI .i64 (b:Int) (x.k:Int)=((b+x.k:Nat):Int):=by rw[zav]<;>omega
    have a2:addI .i64 ((b+x.k:Nat):Int) 1=((b+1+x.k:Nat):Int):=by rw[zav]<;>omega
    simp(disch:=omega)[he',h5,h5e,kk,x0,x0',x3,hxl,c1,a1,a2,zaa,nB,bk,hm,hlt,hul,l0,l2,l3,-Int.natCast_add]
    exact⟨(b+1+x.k,U),nx1 (by omega) hlt,⟨hm,hlt,hul,by simp only; omega⟩,by simp[zaa,nB,l0,l2,l3,-Int.natCast_add],bk U _⟩
   rw[if_neg h5] at hm
   by_cases hbr:isBr x.op=true
   ·rw[if_pos hbr] at hm
    obtain⟨b1,b2,b3,b4⟩:=hbo hbr
    have hof:offs x=[x.jt.toNat,x.jf.toNat]:=by simp[offs,he',h5,hbr]
    have hlt1:=ho x.jt.toNat (by rw[hof]; simp)
    have hlt2:=ho x.jf.toNat (by rw[hof]; simp)
    have a0:addI .i64 (b:Int) 1=((b+1:Nat):Int):=by rw[zav]<;>omega
    have a1:addI .i64 ((b+1:Nat):Int) x.jt=((b+1+x.jt.toNat:Nat):Int):=by rw[zav]<;>omega
    have a2:addI .i64 (b:Int) x.jf=((b+x.jf.toNat:Nat):Int):=by rw[zav]<;>omega
    have a3:addI .i64 ((b+x.jf.toNat:Nat):Int) 1=((b+1+x.jf.toNat:Nat):Int):=by rw[zav]<;>omega
    have h5b:=beqF h5
    have ih:=zqF hs hk hf n (b+1+x.jt.toNat) U (r++[some (.cells x.cs)]) (fun n=>by simp[hr,Blk.cl,kx]) (by omega) hlt1 hul
    have k:=ziA hs n (b+1+x.jt.toNat) U (by omega) hlt1 hul
    simp(disch:=omega)[he',h5b,kk,x0,x0',hxl,hxt,zaa,nB,l0,l2,l3,-Int.natCast_add]
    refine zab (zcf x) ?_
    simp(disch:=omega)[hbr,kk,x1,g3,a0,a1,hxl,nB,zaa,l0,l2,l3,-Int.natCast_add]
    refine zeV (args:=[.int .i64 ((b+1+x.jt.toNat:Nat):Int)]) (cap:=[.ptr 2 0,.ptr 0 0,.ptr 3 0]) ih ?_
    simp(disch:=omega)[kk,x2,a2,a3,hxl,nB,zaa,l0,l2,l3,-Int.natCast_add]
    exact⟨(b+1+x.jf.toNat,zcc f (b+1+x.jt.toNat) U),nx1 (by omega) hlt2,⟨hm,hlt2,by simp only[k.len,hul],by simp only; omega⟩,by simp[zaa,nB,l0,l2,l3,-Int.natCast_add],bk _ _⟩
   ·rw[if_neg hbr] at hm
    have hbr':isBr x.op=false:=by simpa using hbr
    have hlt:=ho 0 (by simp[offs,he',h5,hbr'])
    have h5b:=beqF h5
    have a0:addI .i64 (b:Int) 1=((b+1:Nat):Int):=by rw[zav]<;>omega
    simp(disch:=omega)[he',h5b,kk,x0,x0',hxl,hxt,zaa,nB,l0,l2,l3,-Int.natCast_add]
    refine zab (zcf x) ?_
    simp(disch:=omega)[hbr',kk,a0,hxl,nB,zaa,l0,l2,l3,-Int.natCast_add]
    exact⟨(b+1,U),nx1 (by omega) hlt,⟨hm,hlt,hul,by simp only; omega⟩,by simp[zaa,nB,l0,l2,l3,-Int.natCast_add],bk U _⟩
end Go.Ev
/- What is come to: the whole. -/
namespace Go.Ev
open Go Go.RowKit
variable {G:Tbl}
theorem zxM[HasIns G][HasCheck G][HasPru G]{f:List In4}(hs:zao f=true)(hk:∀ x∈f,x.k<4294967296)(hf:f.length≤4096) :
  FP G 347 [FL f] (.tup [.vs (zaL (metR f)) .no,.int .i64 0]):=by
 refine zak HasPru.h_prune_Met (Nat.le_of_ble_eq_true rfl) ?_
 have hm:f.length≤maxLen:=Nat.le_trans hf (by decide)
 have hso:=zfs (G:=G) f hm hk
 rw[hs] at hso
 simp[FL]
 refine zab hso ?_
 have h0:0<f.length:=by
  have:=zlw hs
  cases f with
  | nil=>exact absurd rfl this
  | cons x f=>simp
 have k:=zqF (G:=G) hs hk hm f.length 0 (List.replicate f.length false) [] (fun n=>rfl) (by omega) h0 (by simp)
 simp(disch:=omega)[FL,zaa,leTn]
 refine zeV (args:=[.int .i64 ((0:Nat):Int)]) (cap:=[.ptr 2 0,.ptr 0 0,.ptr 3 0]) k ?_
 have hl:(metR f).length=f.length:=(ziB hs).1
 have hc:=zhR (metR f)
 rw[hl] at hc
 rw[show zcc f 0 (List.replicate f.length false)=metR f from rfl]
 simp[HM,hl,hc]
theorem zxN[HasIns G][HasCheck G][HasPru G]{f:List In4}(hs:zao f=false)(hk:∀ x∈f,x.k<4294967296)(hf:f.length≤maxLen) :
  FP G 347 [FL f] (.tup [.vs [] .no,.int .i64 1]):=by
 refine zak HasPru.h_prune_Met (Nat.le_of_ble_eq_true rfl) ?_
 have hso:=zfs (G:=G) f hf hk
 rw[hs] at hso
 simp[FL]
 refine zab hso ?_
 simp
end Go.Ev
/- A filter without what is never come to: the code. -/
namespace Go.Ev
open Go Go.RowKit
variable {G:Tbl}
theorem ziC{m:List Bool}{i:Nat}{t:Bool}(h:m[i]?=some t):cntB m (i+1)=cntB m i+(if t=true then 1 else 0):=by
 rw[cntB,cntB,List.take_add_one,h,Option.toList_some,List.countP_append]
 cases t<;>simp
theorem zwx{m:List Bool}{i:Nat}(h:m[i]?=some true)(o:Nat):cntB m (i+1+o)=cntB m i+1+cntB (m.drop (i+1)) o:=by
 rw[zlA,ziC h]; simp
def outP(f:List In4)(m:List Bool)(i:Nat):List In4:=(pruR f m).take (cntB m i)
theorem zqG{f:List In4}{m:List Bool}{i:Nat}(h:m[i]?=some false):outP f m (i+1)=outP f m i:=by
 rw[outP,outP,ziC h]; rfl
theorem zpi{f:List In4}{m:List Bool}{i:Nat}{x:In4}(hl:f.length=m.length)(hx:f[i]?=some x)(h:m[i]?=some true):outP f m (i+1)=outP f m i++[prX (m.drop (i+1)) x]:=by
 have h1:=ziQ f m i hl
 obtain⟨hf,rfl⟩:=List.getElem?_eq_some_iff.1 hx
 obtain⟨hm,e⟩:=List.getElem?_eq_some_iff.1 h
 rw[List.drop_eq_getElem_cons hf,List.drop_eq_getElem_cons hm,e,pruR] at h1
 have h2:(pruR f m)[cntB m i]?=some (prX (m.drop (i+1)) f[i]):=by
  rw[←List.head?_drop,h1]; rfl
 rw[outP,outP,ziC h,if_pos rfl,List.take_add_one,h2]; rfl
theorem zpj{f:List In4}{m:List Bool}(hl:f.length=m.length):outP f m f.length=pruR f m:=by
 rw[outP,List.take_of_length_le]
 rw[zfx f m hl,hl,cntB,List.take_length]; exact Nat.le_refl _
theorem zpk(f:List In4)(m:List Bool)(i:Nat):(outP f m i).length≤i:=by
 rw[outP,List.length_take]
 have:=zeM m i
 omega
def nowP(m:List Bool)(i:Nat):List Nat:=(List.range m.length).map fun j=>if j<i then cntB m j else 0
theorem zpl(m:List Bool)(i:Nat):(nowP m i).length=m.length:=by simp[nowP]
theorem zuF{m:List Bool}{i:Nat}(h:i<m.length):(nowP m i).set i (cntB m i)=nowP m (i+1):=by
 apply List.ext_getElem
 ·simp[nowP]
 intro j h1 h2
 simp only[nowP,List.length_set,List.length_map,List.length_range] at h1 h2
 rw[List.getElem_set]
 simp only[nowP,List.getElem_map,List.getElem_range]
 by_cases e:i=j
 ·subst e; simp
 ·rw[if_neg e]
  by_cases h3:j<i
  ·rw[if_pos h3,if_pos (by omega)]
  ·rw[if_neg h3,if_neg (by omega)]
theorem zpm{m:List Bool}{j:Nat}(h:j<m.length):(nowP m m.length)[j]?=some (cntB m j):=by
 rw[nowP,List.getElem?_map,List.getElem?_range h]
 simp[h]
theorem zxO[HasPru G]{m:List Bool}{i o:Nat}(hm:m.length≤4096)(hi:m[i]?=some true)(ho:i+1+o<m.length)(z:Blk)(y:List V) :
  Big G (.F 348 [.int .i64 i,.int .i64 o,.ptr 1 0] [some (.cells (zad .i64 (nowP m m.length))),some (.cells [.rs 0 0 m.length 1]),some z,some (.cells y)] (.int .i64 (cntB (m.drop (i+1)) o:Nat))
   [some (.cells (zad .i64 (nowP m m.length))),some (.cells [.rs 0 0 m.length 1]),some z,some (.cells y)]):=by
 refine F_of HasPru.h_prune_Prune_1 (Nat.le_of_ble_eq_true rfl) ?_
 have a1:addI .i64 (i:Int) 1=((i+1:Nat):Int):=zag (by omega)
 have a2:addI .i64 ((i+1:Nat):Int) (o:Int)=((i+1+o:Nat):Int):=addN (by omega)
 have l1:=zeM m (i+1+o)
 have e1:=zwx hi o
 have r1:=zd1 .i64 (zpm (m:=m) (j:=i+1+o) ho)
 have r2:=zd1 .i64 (zpm (m:=m) (j:=i) (by omega))
 have s1:subI .i64 (cntB m (i+1+o):Int) (cntB m i:Int)=((cntB m (i+1+o)-cntB m i:Nat):Int):=by rw[zaK]<;>omega
 have s2:subI .i64 ((cntB m (i+1+o)-cntB m i:Nat):Int) 1=((cntB (m.drop (i+1)) o:Nat):Int):=by rw[zaK]<;>omega
 obtain⟨N,hN⟩:∃ N,N=nowP m m.length:=⟨_,rfl⟩
 have hNl:N.length=m.length:=by rw[hN,zpl]
 rw[←hN] at r1 r2 ⊢
 simp(disch:=omega)[a1,a2,r1,r2,s1,s2,ltTn,leTn,hNl,-Int.natCast_add]
end Go.Ev
/- A filter without what is never come to: the whole. -/
namespace Go.Ev
open Go Go.RowKit
variable {G:Tbl}
theorem zs6{o:Int}(h:isBr o=true):zax o=false:=by
 cases e:zax o with
 | false=>rfl
 | true =>
  simp only[zax,Bool.or_eq_true,beq_iff_eq,decide_eq_true_eq] at e
  rcases e with e|e<;>(rw[e] at h; revert h; decide)
theorem zuG[HasIns G][HasCheck G][HasPru G]{f:List In4}(hs:zao f=false)(hk:∀ x∈f,x.k<4294967296)(hf:f.length≤maxLen) :
  FP G 349 [FL f] (.tup [.vs [] .no,.int .i64 1]):=by
 refine zak HasPru.h_prune_Prune (Nat.le_of_ble_eq_true rfl) ?_
 simp[FL]
 refine zab (zxN hs hk hf) ?_
 simp
theorem zuH[HasIns G][HasCheck G][HasPru G]{f:List In4}(hs:zao f=true)(hk:∀ x∈f,x.k<4294967296)(hf:f.length≤4096) :
  FP G 349 [FL f] (.tup [.vs (IL (prune f)) .no,.int .i64 0]):=by
 refine zak HasPru.h_prune_Prune (Nat.le_of_ble_eq_true rfl) ?_
 obtain⟨hml,hcl,h00,_⟩:=ziB hs
 simp[FL]
 refine zab (zxM hs hk hf) ?_
 obtain⟨m,hm⟩:∃ m,m=metR f:=⟨_,rfl⟩
 have hpr:prune f=pruR f m:=by rw[prune,hm]
 rw[←hm] at hml hcl h00 ⊢
 have hl:f.length=m.length:=hml.symm
 have hm4:m.length≤4096:=by omega
 have hbl:(zaL m).length=m.length:=by simp[zaL]
 simp(disch:=omega)[FL,leTn,hbl]
 obtain⟨N,hN⟩:∃ N:Nat→List Nat,∀ j,N j=nowP m j:=⟨_,fun _=>rfl⟩
 have hNl:∀ j,(N j).length=m.length:=fun j=>by rw[hN,zpl]
 have hN0:zae m.length=N 0:=by
  rw[hN,nowP,zae]
  apply List.ext_getElem<;>simp
 refine W_up m.length (fun i=>[(0,FL f),(4,.vs (zaL m) .no),(6,.ptr 1 0),(7,.int .i64 (cntB m i:Nat)),(25,.vs (zaL m) .no),(26,.int .i64 m.length),(27,.int .i64 i)])
  (fun i=>[some (.cells (zad .i64 (N i))),some (.cells [.rs 0 0 m.length 1])]) (fun _=>True) ?_ ?_
 ·simp[zaa,zac,FL,hN0,hl,zcs]
 intro i hi _
 by_cases hlt:i<m.length
 ·obtain⟨t,ht⟩:∃ t,t=m[i]:=⟨_,rfl⟩
  have hg:m[i]?=some t:=by rw[List.getElem?_eq_getElem hlt,ht]
  have hbg:(zaL m)[i]?=some [.bool t]:=by simp[hg]
  have hbe:(zaL m)[i]'(by omega)=[.bool t]:=by simp[zaL,ht]
  have hst:=zbs .i64 (N i) i (cntB m i) (by rw[hNl]; exact hlt)
  rw[hN i,zuF hlt,←hN (i+1),←hN i] at hst
  have hc:=ziC hg
  have hle:=zeM m i
  have a1:addI .i64 (cntB m i:Int) 1=((cntB m i+1:Nat):Int):=zag (by omega)
  cases t with
  | true =>
   simp(disch:=omega)[ltT,leTn,ltTn,hbg,hbe,hst,hNl,hlt,zag,a1,hc,zaa,zac,FL,-Int.natCast_add]
  | false =>
   simp(disch:=omega)[ltT,leTn,ltTn,hbg,hbe,hst,hNl,hlt,zag,hc,zaa,zac,FL,-Int.natCast_add]
 have hne:i=m.length:=by omega
 subst hne
 obtain⟨T,hT⟩:∃ T:Nat→List In4,∀ j,T j=outP f m j:=⟨_,fun _=>rfl⟩
 have hT0:T 0=[]:=by rw[hT,outP,zcs,List.take_zero]
 have hTL:∀ j,(T j).length≤j:=fun j=>by rw[hT]; exact zpk f m j
 simp(disch:=omega)[zaa,zac,FL,-Int.natCast_add]
 refine W_up m.length (fun i=>[(4,.vs (zaL m) .no),(10,.fn 348 [.ptr 1 0]),(11,.vs (IL (T i)) (.own 2)),(41,FL f),(42,.int .i64 m.length),(43,.int .i64 i)])
  (fun i=>[some (.cells (zad .i64 (N m.length))),some (.cells [.rs 0 0 m.length 1]),some (.zone (T i).length)]) (fun _=>True) ?_ ?_
 ·simp[zaa,zac,FL,hT0,hl]
 intro i hi _
 by_cases hlt:i<m.length
 ·obtain⟨t,ht⟩:∃ t,t=m[i]:=⟨_,rfl⟩
  have hg:m[i]?=some t:=by rw[List.getElem?_eq_getElem hlt,ht]
  have hbe:(zaL m)[i]'(by omega)=[.bool t]:=by simp[zaL,ht]
  obtain⟨x,hfx⟩:∃ x,x=f[i]'(by omega):=⟨_,rfl⟩
  have hgg:=zaY (f:=f) (i:=i) (by omega)
  rw[←hfx] at hgg
  have hfx:=hfx.symm
  have hgx:f[i]?=some x:=by rw[List.getElem?_eq_getElem (by omega),hfx]
  have hxm:x∈f:=hfx▸List.getElem_mem _
  have hkk:=hk x hxm
  have hbo:=zdQ hs hgx
  have ho:=fun o h=>zcw (o:=o) hs hgx h
  have hcs:x.cs=[.int .i64 x.op,.int .i64 x.jt,.int .i64 x.jf,.int .u32 (x.k:Int)]:=rfl
  have hbr:=zcf (G:=G) x
  simp[IV,hcs] at hbr
  have hTl:=hTL i
  cases t with
  | false =>
   have hTe:T (i+1)=T i:=by rw[hT,hT]; exact zqG hg
   simp(disch:=omega)[ltT,leTn,ltTn,hbe,hgg,hfx,hcs,hTe,hlt,zag,zaa,zac,FL,-Int.natCast_add]
  | true =>
   have hTs:T (i+1)=T i++[prX (m.drop (i+1)) x]:=by rw[hT,hT]; exact zpi hl hgx hg
   have hTl2:(T (i+1)).length=(T i).length+1:=by rw[hTs]; simp
   have hsn:∀ y:In4,y=prX (m.drop (i+1)) x→IL (T i)++[y.cs]=IL (T (i+1)):=fun y hy=>by rw[hTs,hy]; exact zkX _ _
   have hov:∀ o:Nat,i+1+o<m.length→_:=fun o h=>zxO (G:=G) hm4 hg h (.zone (T i).length) x.cs
   rw[←hN] at hov
   by_cases h5:x.op=5
   ·have b5:(x.op==5)=true:=by simp[h5]
    have h5e:zax (5:Int)=false:=by decide
    have hc:=zda x.k hkk
    have hlk:i+1+x.k<m.length:=by
     have:=ho x.k (by simp[offs,h5,h5e])
     omega
    have hv:=hov x.k hlk
    have hle:=zeM (m.drop (i+1)) x.k
    have hc2:zaP .u32 ((cntB (m.drop (i+1)) x.k:Nat):Int)=((cntB (m.drop (i+1)) x.k:Nat):Int):=by unfold zaP; exact zaT (by omega)
    have hap:=hsn ⟨x.op,x.jt,x.jf,cntB (m.drop (i+1)) x.k⟩ (by simp[prX,h5])
    simp only[In4.cs] at hv hap
    obtain⟨q,hq⟩:∃ q,q=cntB (m.drop (i+1)) x.k:=⟨_,rfl⟩
    rw[←hq] at hv hap hc2 hle
    simp(disch:=omega)[ltT,leTn,ltTn,hbe,hgg,hfx,hcs,b5,hc,FL,-Int.natCast_add]
    refine zaF hv (by simp) ?_
    simp(disch:=omega)[zac,hc2,leTn,hap,hTl2,hlt,zag,zaa,-Int.natCast_add]
   have b5:(x.op==5)=false:=beqF h5
   simp(disch:=omega)[ltT,leTn,ltTn,hbe,hgg,hfx,hcs,b5,FL,-Int.natCast_add]
   refine zab hbr ?_
   cases hbx:isBr x.op
   ·have hap:=hsn x (by simp[prX,h5,hbx])
    simp only[In4.cs] at hap
    simp(disch:=omega)[leTn,hap,hTl2,hlt,zag,zaa,zac,-Int.natCast_add]
   ·obtain⟨b1,b2,b3,b4⟩:=hbo hbx
    have he':zax x.op=false:=zs6 hbx
    have hof:offs x=[x.jt.toNat,x.jf.toNat]:=by simp[offs,he',h5,hbx]
    have hl1:=ho x.jt.toNat (by rw[hof]; simp)
    have hl2:=ho x.jf.toNat (by rw[hof]; simp)
    have hv:=hov x.jt.toNat (by omega)
    have hv2:=hov x.jf.toNat (by omega)
    have hap:=hsn ⟨x.op,(cntB (m.drop (i+1)) x.jt.toNat:Nat),(cntB (m.drop (i+1)) x.jf.toNat:Nat),x.k⟩ (by simp[prX,h5,hbx])
    have j1:((x.jt.toNat:Nat):Int)=x.jt:=by omega
    have j2:((x.jf.toNat:Nat):Int)=x.jf:=by omega
    simp only[In4.cs,j1,j2] at hv hv2 hap
    obtain⟨q,hq⟩:∃ q,q=cntB (m.drop (i+1)) x.jt.toNat:=⟨_,rfl⟩
    obtain⟨q2,hq2⟩:∃ q,q=cntB (m.drop (i+1)) x.jf.toNat:=⟨_,rfl⟩
    rw[←hq] at hv hap
    rw[←hq2] at hv2 hap
    simp
    refine zaF hv (by simp[zac]) ?_
    simp[zac]
    refine zaF hv2 (by simp[zac]) ?_
    simp(disch:=omega)[zac,leTn,hap,hTl2,hlt,zag,zaa,-Int.natCast_add]
 ·have hne:i=m.length:=by omega
  subst hne
  have hTe:T m.length=prune f:=by rw[hT,←hl,zpj hl,hpr]
  simp[hTe]
end Go.Ev
/- Filters made shorter: all rounds. -/
namespace Go.Ev
open Go Go.RowKit
variable {G:Tbl}
noncomputable def optR(f:List In4)(t:List TR)(rnds tries most:Int):(List In4×List TR)×Nat×Bool :=
 zbg (zaX tries 0 1000) (zaX most 0 32) (zaX rnds 0 1000).toNat (prune f) (goodT t)
theorem znD(t:List TR):tblB (goodT t)=true:=by
 unfold goodT
 split
 ·assumption
 ·rfl
theorem zlz{t:List TR}(h:tblB t=true)(hk:TblK t):zmg t:=by
 refine⟨by have:=(zmS h).2; omega,fun r hr=>?_⟩
 have hm:r.may=true:=by
  simp only[tblB,Bool.and_eq_true] at h
  exact List.all_eq_true.1 h.1.1 r hr
 obtain⟨h1,h2⟩:=zd3 hm
 obtain⟨k1,k2,k3⟩:=hk r hr
 exact⟨Nat.le_trans h1 (by decide),Nat.le_trans h2 (by decide),k1,k2,k3⟩
theorem zqH{f:List In4}(hk:∀ x∈f,x.k<4294967296):∀ x∈prune f,x.k<4294967296:=by
 intro x hx
 obtain⟨y,h1,_,h2⟩:=zmM hx
 have:=hk y h1
 omega
theorem zk9[HasWd G][HasNeg G][HasIns G][HasCheck G][HasData G][HasWith G][HasStep G][HasWRight G][HasWinRun G][HasWinAsg G][HasWinState G][HasWinOf G][HasAffApart G][HasAffine G][hBA:HasBitsA G][HasSymNew G][HasSym G][HasSymEval G][HasSymApart G][HasDecDf G][HasDec G][HasSrcN G][HasSrcL G][HasSrcC G][HasSrcF G][HasTells G][HasLive G][HasSpl G][HasEnc G][HasTbl G][HasPru G][HasOpt G]
  (f:List In4) (t:List TR) (rnds tries most:Int) (hs:zao f=true) (hk:∀ x∈f,x.k<4294967296) (ht:zmg t) (htk:TblK (goodT t)) :
  FP G 365 [FL f,TF t,.agg [.int .i64 rnds,.int .i64 tries,.int .i64 most]] (.tup [.agg (ResC (optR f t rnds tries most).1.1 (optR f t rnds tries most).1.2 (optR f t rnds tries most).2.1 (optR f t rnds tries most).2.2),.int .i64 0]):=by
 refine zak HasOpt.h_opt_Optimize (Nat.le_of_ble_eq_true rfl) ?_
 have hL4:=zcg hs
 have hpr:=zuH (G:=G) hs hk hL4
 obtain⟨p1,p2,_,_⟩:=zph hs
 have p3:=zqH hk
 have hfa:=zuX (G:=G) rnds tries most
 have hgd:=zwE (G:=G) t ht.1 ht.2
 have g1:=znD t
 obtain⟨tr,htr⟩:∃ tr,tr=zaX tries 0 1000:=⟨_,rfl⟩
 obtain⟨mo,hmo⟩:∃ mo,mo=zaX most 0 32:=⟨_,rfl⟩
 have hmo':0≤mo∧mo≤32:=by rw[hmo]; unfold zaX; omega
 obtain⟨R,hR⟩:∃ R:Nat,zaX rnds 0 1000=R:=⟨(zaX rnds 0 1000).toNat,by unfold zaX; omega⟩
 have hR1:R≤1000:=by
  have:zaX rnds 0 1000≤1000:=by unfold zaX; omega
  omega
 rw[optR,←htr,←hmo,hR,Int.toNat_natCast]
 rw[←htr,←hmo,hR] at hfa
 generalize prune f=F at *
 generalize goodT t=T at *
 obtain⟨Q,hQ⟩:∃ Q,Q=zbg tr mo R F T:=⟨_,rfl⟩
 rw[←hQ]
 simp only[FL,TF] at hpr hgd
 simp[FL,TF]
 refine zab hpr ?_
 simp
 refine zab hfa ?_
 simp
 refine zab hgd ?_
 simp[zaa]
 refine zfZ (S:=Nat×List In4×List TR) (fun s=>R-s.1) (fun s=>[(5,.ptr 0 0),(6,.ptr 1 0),(9,.ptr 2 0),(27,.int .i64 R),(28,.int .i64 s.1)])
  (fun s=>[some (.cells [.int .i64 R,.int .i64 tr,.int .i64 mo]),some (.cells [.vs [] .full,.vs [] .full,.int .i64 0,.bool false]),some (.cells (ResC s.2.1 s.2.2 s.1 false))])
  (fun s=>s.1≤R∧(zbg tr mo (R-s.1) s.2.1 s.2.2).1=Q.1∧s.1+(zbg tr mo (R-s.1) s.2.1 s.2.2).2.1=Q.2.1∧(zbg tr mo (R-s.1) s.2.1 s.2.2).2.2=Q.2.2∧zao s.2.1=true∧(∀ x∈s.2.1,x.k<4294967296)∧TblK s.2.2∧tblB s.2.2=true) (0,F,T) ?_ ?_
 ·simp[zaa,zac,ResC,FL,TF,hQ,p1,htk,g1]
  exact p3
 rintro⟨i,f',t'⟩ ⟨hi,q1,q2,q3,s1,s2,s3,s4⟩
 simp only at hi q1 q2 q3 s1 s2 s3 s4 ⊢
 have hrd:=zry (G:=G) f' t' R tr mo s1 s2 (zlz s4 s3) hmo'
 simp only[FL,TF] at hrd
 by_cases hlt:i<R
 ·obtain⟨k,hk'⟩:∃ k,R-i=k+1:=⟨R-i-1,by omega⟩
  rw[hk',zbg] at q1 q2 q3
  have hlt':((i:Int)<(R:Int))=True:=eq_true (by omega)
  simp[hlt',ResC,FL,TF]
  refine zab hrd ?_
  cases hro:zbM f' t' tr mo with
  | none =>
   rw[hro] at q1 q2 q3
   simp only at q1 q2 q3
   simp[rndV,ResC,FL,TF,←q1,←q2,←q3]
  | some q =>
   rw[hro] at q1 q2 q3
   simp only at q1 q2 q3
   have kk:=zlD s1 s2 s3 hro
   simp[rndV,ResC,FL,TF]
   have a1:addI .i64 (i:Int) 1=((i+1:Nat):Int):=zag (by omega)
   have hRk:R-(i+1)=k:=by omega
   refine⟨(i+1,q.1,q.2),by simp only; omega,⟨by simp only; omega,by simp only[hRk]; exact q1,by simp only[hRk]; omega,by simp only[hRk]; exact q3,kk.sound,kk.k,kk.tk,kk.tbl s4⟩,?_,?_⟩
   ·rw[a1]; simp[zaa,-Int.natCast_add]
   ·rw[a1]; simp[zac,-Int.natCast_add]
 ·have hne:i=R:=by omega
  subst hne
  rw[Nat.sub_self,zbg] at q1 q2 q3
  simp only at q1 q2 q3
  simp[ResC,FL,TF,←q1,←q2,←q3]
end Go.Ev
/- Layer 24: the smaller functions of its statements. -/
namespace Go.Ev
open Go Go.RowKit
variable {G:Tbl}
def zeU(t:List TR):Bool:=t.any (fun r=>decide (100<r.fr.length)||decide (100<r.to.length))||decide (100<t.length)
theorem zrA[HasL21 G](t:List TR)(hl:t.length≤maxLen)(hk:∀ r∈t,r.fr.length≤maxLen∧r.to.length≤maxLen):FP G 375 [TF t] (.bool (zeU t)):=by
 refine zak HasL21.h_hurdlelaw21_Great (Nat.le_of_ble_eq_true rfl) ?_
 have hm:=hl
 simp only[maxLen] at hm
 simp[TF]
 refine W_up t.length (fun i=>[(0,TF t),(3,.int .i64 i)]) (fun _=>[]) (fun i=>∀ j<i,∀ r,t[j]?=some r→(decide (100<r.fr.length)||decide (100<r.to.length))=false) ?_ ?_
 ·simp[zaa,zac,TF]
 intro i hi hP
 by_cases hlt:i<t.length
 ·obtain⟨x,hfx⟩:∃ x,x=t[i]:=⟨_,rfl⟩
  have hg:t[i]?=some x:=by rw[hfx]; exact List.getElem?_eq_getElem hlt
  have hgg:=zdT hg
  have hte:(TL t)[i]'(by simpa using hlt)=x.cs:=by simp[TL,hfx]
  have hlt':((i:Int)<(t.length:Int))=True:=eq_true (by omega)
  have yes:(decide (100<x.fr.length)||decide (100<x.to.length))=true→zeU t=true:=fun h=>by
   rw[zeU,List.any_eq_true.2 ⟨x,List.mem_of_getElem? hg,h⟩]; rfl
  have next:(decide (100<x.fr.length)||decide (100<x.to.length))=false→∀ j<i+1,∀ r,t[j]?=some r→(decide (100<r.fr.length)||decide (100<r.to.length))=false:=fun hx j hj r hr=>by
   rcases Nat.lt_succ_iff_lt_or_eq.1 hj with h|rfl
   ·exact hP j h r hr
   ·rw[hg] at hr; cases hr; exact hx
  by_cases c1:100<x.fr.length
  ·have c1':((100:Int)<(x.fr.length:Int))=True:=eq_true (by omega)
   have hy:=yes (by simp[c1])
   simp(disch:=omega)[TF,hlt',hgg,hte,TR.cs,c1',hy]
  ·have c1':((100:Int)<(x.fr.length:Int))=False:=eq_false (by omega)
   by_cases c2:100<x.to.length
   ·have c2':((100:Int)<(x.to.length:Int))=True:=eq_true (by omega)
    have hy:=yes (by simp[c2])
    simp(disch:=omega)[TF,hlt',hgg,hte,TR.cs,c1',c2',hy]
   ·have c2':((100:Int)<(x.to.length:Int))=False:=eq_false (by omega)
    have hn:=next (by simp[c1,c2])
    simp(disch:=omega)[TF,hlt',hgg,hte,TR.cs,c1',c2',hlt,zag,zaa,zac,-Int.natCast_add]
    intro j hj r hr
    have:=hn j hj r hr
    simp only[Bool.or_eq_false_iff,decide_eq_false_iff_not] at this
    omega
 ·have hne:i=t.length:=by omega
  subst hne
  have hany:t.any (fun r=>decide (100<r.fr.length)||decide (100<r.to.length))=false:=by
   rw[List.any_eq_false]
   intro r hr
   obtain⟨j,hj⟩:=List.getElem?_of_mem hr
   rw[hP j (List.getElem?_eq_some_iff.1 hj).1 r hj]
   simp
  by_cases c:100<t.length
  ·have c':((100:Int)<(t.length:Int))=True:=eq_true (by omega)
   simp[TF,zeU,hany,c,c']
  ·have c':((100:Int)<(t.length:Int))=False:=eq_false (by omega)
   simp[TF,zeU,hany,c,c']
def zc9(f:List In4)(t:List TR)(a b c:Int):Bool:=decide (60<f.length)||zeU t||decide (8<a)||decide (40<b)||decide (5<c)
theorem zrB[HasL21 G][HasL24k G](f:List In4)(t:List TR)(a b c:Int)(hl:t.length≤maxLen)(hk:∀ r∈t,r.fr.length≤maxLen∧r.to.length≤maxLen) :
  FP G 378 [FL f,TF t,.agg [.int .i64 a,.int .i64 b,.int .i64 c]] (.bool (zc9 f t a b c)):=by
 refine zak HasL24k.h_hurdlelaw24_Great (Nat.le_of_ble_eq_true rfl) ?_
 have hg:=zrA (G:=G) t hl hk
 simp only[TF] at hg
 by_cases c1:60<f.length
 ·have c1':((60:Int)<(f.length:Int))=True:=eq_true (by omega)
  simp[FL,TF,c1,c1',zc9]
 ·have c1':((60:Int)<(f.length:Int))=False:=eq_false (by omega)
  simp[FL,TF,c1']
  refine zab hg ?_
  cases h2:zeU t with
  | true=>simp[zc9,c1,h2]
  | false =>
   by_cases c3:8<a
   ·simp[zc9,c1,h2,c3]
   ·by_cases c4:40<b
    ·simp[zc9,c1,h2,c3,c4]
    ·by_cases c5:5<c<;>simp[zc9,c1,h2,c3,c4,c5]
end Go.Ev
/- Layer 24: the law OptMeans. -/
namespace Go.Ev
open Go Go.RowKit
variable {G:Tbl}
theorem zwy{t:List TR}(h:∀ r∈t,r.ok):TblK t:=fun r hr=>⟨(h r hr).2.2.1,(h r hr).2.2.2.1,(h r hr).2.2.2.2⟩
theorem zs7{t:List TR}(h:TblK t):TblK (goodT t):=by
 unfold goodT
 split
 ·exact h
 ·intro r hr; cases hr
theorem zs8{f:List In4}{t:List TR}{a b c:Int}(h:zc9 f t a b c=false):f.length≤60∧t.length≤100∧∀ r∈t,r.fr.length≤100∧r.to.length≤100:=by
 simp only[zc9,zeU,Bool.or_eq_false_iff,decide_eq_false_iff_not,List.any_eq_false] at h
 obtain⟨⟨⟨⟨h1,h2,h3⟩,_⟩,_⟩,_⟩:=h
 refine⟨by omega,by omega,fun r hr=>?_⟩
 have:=h2 r hr
 simp only[Bool.or_eq_true,decide_eq_true_eq,not_or] at this
 omega
end Go.Ev
/- Layer 24: the examples. -/
namespace Go.Ev
open Go Go.RowKit
variable {G:Tbl}
def nn:List In4:=[⟨132,0,0,0⟩,⟨132,0,0,0⟩]
def RA:In4:=⟨22,0,0,0⟩
def ex24:List In4:=nn++[RA]
theorem zs9:zao ex24=true:=by decide +kernel
theorem zxP:∀ x∈ex24,x.k<4294967296:=by decide
theorem nn_w:winB nn=true:=by decide +kernel
theorem zuI:AllP ex24:=by
 intro i h0 hi
 have:i=1∨i=2:=by simp[ex24,nn] at hi; omega
 rcases this with rfl|rfl
 ·exact⟨0,⟨132,0,0,0⟩,0,rfl,by decide,rfl⟩
 ·exact⟨1,⟨132,0,0,0⟩,0,rfl,by decide,rfl⟩
theorem zta:rows ex24 4 3=[(0,2)]:=by kernel_rfl
theorem zwz:rows [RA] 4 1=[]:=by kernel_rfl
theorem ztb:zkQ ex24 0 2=1:=by kernel_rfl
theorem zuJ:putL ex24 0 2 []=[RA]:=by kernel_rfl
theorem ztc:zc1 (winV [] nn).p (winV (winV [] nn).L []).p (winV [] nn).st (winV (winV [] nn).L []).st 1=true:=by kernel_rfl
theorem ztd:findR nn 1 9=some []:=by
 refine zxQ (k:=0) (zvo (by decide)) (by decide) ?_ fun j hj=>by omega
 have:=zuP (v:=nn) (w:=[]) (live:=1) nn_w (by decide +kernel)
 rw[ztc] at this
 simpa using this
def r24:TR:=⟨nn,[],1⟩
theorem zrC:zaD [] r24=([r24],0):=by kernel_rfl
theorem zuK:optR ex24 [] 9 9 4=(([RA],[r24]),1,true):=by
 have h1:zbM ex24 [] 9 4=some ([RA],[r24]):=by
  rw[zbM,show ex24.length=3 from rfl,zta]
  have hp:zb9 ex24 0 2=nn:=rfl
  have hf:zbl nn [] 1 9=some []:=by
   rw[zbl,show zek [] nn 1=none from rfl]
   exact ztd
  have ht:tryP ex24 [] 9 (0,2)=some ([RA],[r24]):=by
   rw[tryP,hp,ztb,hf,Option.map_some,zuJ]
   rw[show(⟨nn,[],1⟩:TR)=r24 from rfl,zrC]
  rw[List.findSome?_cons,ht]
 have h2:zbM [RA] [r24] 9 4=none:=by
  rw[zbM,show [RA].length=1 from rfl,zwz]; rfl
 rw[optR,zrz zs9 zuI,show goodT []=[] from rfl,show zaX 9 0 1000=9 from rfl,show zaX 4 0 32=4 from rfl,show Int.toNat 9=8+1 from rfl,zbg,h1]
 simp only[]
 rw[zbg,h2]
theorem zrD[HasWd G][HasNeg G][HasIns G][HasCheck G][HasData G][HasWith G][HasStep G][HasWRight G][HasWinRun G][HasWinAsg G][HasWinState G][HasWinOf G][HasAffApart G][HasAffine G][hBA:HasBitsA G][HasSymNew G][HasSym G][HasSymEval G][HasSymApart G][HasDecDf G][HasDec G][HasSrcN G][HasSrcL G][HasSrcC G][HasSrcF G][HasTells G][HasLive G][HasSpl G][HasEnc G][HasTbl G][HasPru G][HasOpt G][HasL24k G]
  (p1:FP G 148 [.str [110,101,103,10,110,101,103,10,114,101,116,97,10]] (.tup [FL ex24,.int .i64 0,.int .i64 0])):FP G 379 [] (.bool true):=by
 refine zak HasL24k.h_hurdlelaw24_knows (Nat.le_of_ble_eq_true rfl) ?_
 have hop:=zk9 (G:=G) ex24 [] 9 9 4 zs9 zxP ⟨by decide,fun r hr=>by cases hr⟩ (fun r hr=>by cases hr)
 rw[zuK] at hop
 have hex:IL [RA]=[[.int .i64 22,.int .i64 0,.int .i64 0,.int .u32 0]]:=rfl
 have hae:=aeq4 RA RA
 simp only[decide_true,In4.cs,RA] at hae
 simp only[FL,TF,ResC,hex,show TL []=[] from rfl] at p1 hop
 simp
 refine zab p1 ?_
 simp
 refine zab hop ?_
 simp[zaa]
end Go.Ev
