/- Arguments of the statements: instructions, states, records. -/
import Derived.Test.YtogjnjnabikdpaaGreatDoorCheckBW
import Derived.Test.YtogjnjnabikdpaaGreatDoorEvSW
import Derived.Test.YtogjnjnabikdpaaGreatDoorTabOW
set_option linter.unusedSimpArgs false
set_option linter.unusedVariables false
set_option maxHeartbeats 8000000
set_option maxRecDepth 10000
namespace Go.Ev
open Go Go.RowKit
def i64R(n:Int):Prop:=-9223372036854775808≤n∧n≤9223372036854775807
def In4.ok(x:In4):Prop:=(i64R x.op∧i64R x.jt∧i64R x.jf)∧x.k<4294967296
theorem zn0{n:Int}(h:(Lit.int .i64 n).wf=true):i64R n:=by
 simp[Lit.wf,IntKind.min,IntKind.max,IntKind.signed,IntKind.bits] at h
 unfold i64R
 omega
theorem zrH{k:IntKind}{cs:List V}(h:zaB (.int k) cs):∃ n,cs=[.int k n]∧(Lit.int k n).wf=true:=by simpa only[zaB] using h
theorem zrI{cs:List V}(h:zaB (.agg [.int .i64,.int .i64,.int .i64,.int .u32]) cs):∃ x:In4,cs=x.cs∧x.ok:=by
 simp only[zaB,zbR] at h
 obtain⟨a,_,rfl,⟨n1,rfl,w1⟩,b,_,rfl,⟨n2,rfl,w2⟩,c,_,rfl,⟨n3,rfl,w3⟩,d,_,rfl,⟨n4,rfl,w4⟩,rfl⟩:=h
 have w4:=zsD w4
 refine⟨⟨n1,n2,n3,n4.toNat⟩,?_,⟨zn0 w1,zn0 w2,zn0 w3⟩,by simp only; omega⟩
 simp[In4.cs,Int.toNat_of_nonneg w4.1]
theorem ztv{cs:List V}(h:zaB (.int .u32) cs):∃ n:Nat,cs=[.int .u32 (n:Int)]∧n<4294967296:=by
 obtain⟨n,rfl,hw⟩:=zrH h
 have:=zsD hw
 exact⟨n.toNat,by rw[Int.toNat_of_nonneg this.1],by omega⟩
theorem zkQ:∀{es:List (List V)},(∀ x∈es,zaB (.agg [.int .i64,.int .i64,.int .i64,.int .u32]) x)→∃ f:List In4,es=IL f∧∀ x∈f,x.ok
 | [],_=>⟨[],rfl,by simp⟩
 | e::es,h=>by
  obtain⟨x,rfl,hx⟩:=zrI (h e (by simp))
  obtain⟨f,rfl,hf⟩:=zkQ (es:=es) fun y hy=>h y (by simp[hy])
  refine⟨x::f,by simp[IL],fun y hy=>?_⟩
  simp only[List.mem_cons] at hy
  rcases hy with rfl|hy
  ·exact hx
  ·exact hf y hy
theorem zpT{v:V}(h:zke (.sl (.agg [.int .i64,.int .i64,.int .i64,.int .u32])) v):∃ f:List In4,v=FL f∧f.length≤maxLen∧∀ x∈f,x.ok:=by
 have h:zaB (.sl (.agg [.int .i64,.int .i64,.int .i64,.int .u32])) [v]:=h
 rw[zaB] at h
 obtain⟨es,hes,hl,he⟩:=h
 obtain⟨f,rfl,hf⟩:=zkQ he
 simp only[List.cons.injEq,and_true] at hes
 exact⟨f,by rw[hes]; rfl,by simpa using hl,hf⟩
end Go.Ev
/- Arguments of the statements: tables, budgets. -/
namespace Go.Ev
open Go Go.RowKit
theorem zmQ{cs:List V}(h:zaB (.sl (.agg [.int .i64,.int .i64,.int .i64,.int .u32])) cs):∃ f:List In4,cs=[FL f]∧f.length≤maxLen∧∀ x∈f,x.ok:=by
 rw[zaB] at h
 obtain⟨es,hes,hl,he⟩:=h
 obtain⟨f,rfl,hf⟩:=zkQ he
 exact⟨f,hes,by simpa using hl,hf⟩
theorem zqX{cs:List V}(h:zaB (.agg [.sl (.agg [.int .i64,.int .i64,.int .i64,.int .u32]),.sl (.agg [.int .i64,.int .i64,.int .i64,.int .u32]),.int .u32]) cs):∃ r:TR,cs=r.cs∧r.ok:=by
 unfold zaB zbR at h
 obtain⟨a,b,rfl,h1,h⟩:=h
 unfold zbR at h
 obtain⟨c,d,rfl,h2,h⟩:=h
 unfold zbR at h
 obtain⟨f,g,rfl,h3,h⟩:=h
 unfold zbR at h
 subst h
 obtain⟨v,rfl,lv,kv⟩:=zmQ h1
 obtain⟨w,rfl,lw,kw⟩:=zmQ h2
 obtain⟨n,rfl,hn⟩:=ztv h3
 exact⟨⟨v,w,n⟩,rfl,lv,lw,fun x hx=>(kv x hx).2,fun x hx=>(kw x hx).2,hn⟩
theorem zn1:∀{es:List (List V)},(∀ x∈es,zaB (.agg [.sl (.agg [.int .i64,.int .i64,.int .i64,.int .u32]),.sl (.agg [.int .i64,.int .i64,.int .i64,.int .u32]),.int .u32]) x)→∃ t:List TR,es=TL t∧∀ r∈t,r.ok
 | [],_=>⟨[],rfl,by simp⟩
 | e::es,h=>by
  obtain⟨x,rfl,hx⟩:=zqX (h e (by simp))
  obtain⟨f,rfl,hf⟩:=zn1 (es:=es) fun y hy=>h y (by simp[hy])
  refine⟨x::f,by simp[TL],fun y hy=>?_⟩
  simp only[List.mem_cons] at hy
  rcases hy with rfl|hy
  ·exact hx
  ·exact hf y hy
theorem zpU{v:V}(h:zke (.sl (.agg [.sl (.agg [.int .i64,.int .i64,.int .i64,.int .u32]),.sl (.agg [.int .i64,.int .i64,.int .i64,.int .u32]),.int .u32])) v):∃ t:List TR,v=TF t∧t.length≤maxLen∧∀ r∈t,r.ok:=by
 have h:zaB (.sl (.agg [.sl (.agg [.int .i64,.int .i64,.int .i64,.int .u32]),.sl (.agg [.int .i64,.int .i64,.int .i64,.int .u32]),.int .u32])) [v]:=h
 rw[zaB] at h
 obtain⟨es,hes,hl,he⟩:=h
 obtain⟨t,rfl,ht⟩:=zn1 he
 simp only[List.cons.injEq,and_true] at hes
 exact⟨t,by rw[hes]; rfl,by simpa using hl,ht⟩
theorem zpV{v:V}(h:zke (.agg [.int .i64,.int .i64,.int .i64]) v):∃ a b c:Int,v=.agg [.int .i64 a,.int .i64 b,.int .i64 c]:=by
 unfold zke at h
 obtain⟨cs,rfl,h⟩:=h
 simp only[zaB,zbR] at h
 obtain⟨a,_,rfl,⟨n1,rfl,w1⟩,b,_,rfl,⟨n2,rfl,w2⟩,c,_,rfl,⟨n3,rfl,w3⟩,rfl⟩:=h
 exact⟨n1,n2,n3,rfl⟩
end Go.Ev
/- Layer 24: the law OptStays. -/
namespace Go.Ev
open Go Go.RowKit
variable {G:Tbl}
theorem zvn[HasL21 G](r:TR):FP G 373 [TV r] (TV r):=by
 refine zak HasL21.h_hurdlelaw21_as (Nat.le_of_ble_eq_true rfl) ?_
 simp[TV,TR.cs]
theorem zpW[HasL21 G](t:List TR)(hl:t.length≤1000000):FP G 374 [TF t] (TF t):=by
 refine zak HasL21.h_hurdlelaw21_As (Nat.le_of_ble_eq_true rfl) ?_
 obtain⟨T,hT⟩:∃ T:Nat→List TR,∀ j,T j=t.take j:=⟨_,fun _=>rfl⟩
 have hT0:T 0=[]:=by rw[hT]; rfl
 have hTl:∀ j,j≤t.length→(T j).length=j:=fun j hj=>by rw[hT,List.length_take]; omega
 simp[TF]
 refine W_up t.length (fun i=>[(0,TF t),(3,.vs (TL (T i)) (.own 0)),(4,.int .i64 i)]) (fun i=>[some (.zone i)]) (fun _=>True) ?_ ?_
 ·simp[zaa,zad,TF,hT0,TL]
 intro i hi _
 by_cases hlt:i<t.length
 ·obtain⟨y,hfy⟩:∃ y,y=t[i]:=⟨_,rfl⟩
  have hg:t[i]?=some y:=by rw[hfy]; exact List.getElem?_eq_getElem _
  have hgg:=zcZ hg
  have hte:(TL t)[i]'(by simpa using hlt)=y.cs:=by simp[TL,hfy]
  have ha:=zvn (G:=G) y
  simp only[TV] at ha
  have hyl:y.cs.length=3:=rfl
  have hyt:y.cs.take 3=y.cs:=rfl
  have hyp:=zkz y
  have hTs:TL (T i)++[y.cs]=TL (T (i+1)):=by rw[hT,hT,zkA,List.take_add_one,hg]; rfl
  have hl1:=hTl i (by omega)
  simp(disch:=omega)[ltT,TF,hgg,hte,hyl,hyt]
  refine zab ha ?_
  simp(disch:=omega)[hyl,hyt,hyp,hTs,hl1,zl5,leTn,hlt,zag,zaa,zad,TF,-Int.natCast_add]
 ·have hne:i=t.length:=by omega
  subst hne
  have:T t.length=t:=by rw[hT,List.take_length]
  simp[this,TF]
theorem zrJ[HasR3 G][HasR21s G](t:List TR)(hl:t.length≤1000000)(hk:∀ r∈t,r.fr.length≤1000000∧r.to.length≤1000000):FP G 372 [TF t,TF t] (.bool true):=by
 refine zak HasR21s.h_hurdleref21_Same (Nat.le_of_ble_eq_true rfl) ?_
 simp[TF]
 refine W_up t.length (fun i=>[(0,TF t),(1,TF t),(5,.int .i64 i)]) (fun _=>[]) (fun _=>True) ?_ ?_
 ·simp[zaa,zad,TF]
 intro i hi _
 by_cases hlt:i<t.length
 ·obtain⟨y,hfy⟩:∃ y,y=t[i]:=⟨_,rfl⟩
  have hg:t[i]?=some y:=by rw[hfy]; exact List.getElem?_eq_getElem _
  have hgg:=zcZ hg
  have hte:(TL t)[i]'(by simpa using hlt)=y.cs:=by simp[TL,hfy]
  obtain⟨k1,k2⟩:=hk y (List.mem_of_getElem? hg)
  have s1:=zi8 (G:=G) y.fr y.fr k1
  have s2:=zi8 (G:=G) y.to y.to k2
  simp only[FL,decide_true] at s1 s2
  simp(disch:=omega)[ltT,TF,hgg,hte,TR.cs]
  refine zab s1 ?_
  simp(disch:=omega)[ltT,TF,hgg,hte,TR.cs]
  refine zab s2 ?_
  simp(disch:=omega)[hlt,zag,zaa,zad,TF,-Int.natCast_add]
 ·have hne:i=t.length:=by omega
  subst hne
  simp[TF]
theorem zrK[HasR24c G](n most:Int)(h:0≤most):FP G 376 [.int .i64 n,.int .i64 most] (.int .i64 (zaS n 0 most)):=by
 refine zak HasR24c.h_hurdleref24_Clip (Nat.le_of_ble_eq_true rfl) ?_
 by_cases h1:n<0
 ·have:zaS n 0 most=0:=by unfold zaS; omega
  simp[h1,this]
 ·by_cases h2:most<n
  ·have:zaS n 0 most=most:=by unfold zaS; omega
   simp[h1,h2,this]
  ·have:zaS n 0 most=n:=by unfold zaS; omega
   simp[h1,h2,this]
theorem zpu[HasWd G][HasNeg G][HasIns G][HasCheck G][HasData G][HasWith G][HasStep G][HasWRight G][HasWinRun G][HasWinAsg G][HasWinState G][HasWinOf G][HasAffApart G][HasAffine G][hBA:HasBitsA G][HasSymNew G][HasSym G][HasSymEval G][HasSymApart G][HasDecDf G][HasDec G][HasSrcN G][HasSrcL G][HasSrcC G][HasSrcF G][HasTells G][HasLive G][HasSpl G][HasEnc G][HasTbl G][HasPru G][HasOpt G]
  [HasR2 G][HasR5 G][HasR3 G][HasR21s G][HasR24c G][HasL21 G][HasL24k G][HasL24 G]
  (hkn:FP G 379 [] (.bool true)) (f:List In4) (t:List TR) (a b c:Int) (hf:f.length≤maxLen) (hk:∀ x∈f,x.k<4294967296) (hl:t.length≤maxLen) (htk:∀ r∈t,r.ok) :
  FP G 382 [FL f,TF t,.agg [.int .i64 a,.int .i64 b,.int .i64 c]] (.bool true):=by
 refine zak HasL24.h_hurdlelaw24_OptStays (Nat.le_of_ble_eq_true rfl) ?_
 have hgr:=zl8 (G:=G) f t a b c hl (fun r hr=>⟨(htk r hr).1,(htk r hr).2.1⟩)
 have hso:=zmS (G:=G) f hf hk
 simp only[FL,TF] at hgr hso
 simp[FL,TF]
 refine zab hgr ?_
 cases hg:zc3 f t a b c with
 | true =>
  simp
  refine zab hkn ?_
  simp
 | false =>
 simp
 refine zab hso ?_
 cases hs:zap f with
 | false =>
  simp
  refine zab hkn ?_
  simp
 | true =>
 obtain⟨l1,l2,l3⟩:=znI hg
 have hop:=zfU (G:=G) f t a b c hs hk ⟨by omega,htk⟩ (zf5 (zif htk))
 have ok:=ztp a b c hs hk (zif htk)
 obtain⟨p1,p2,p3,p4⟩:=zln hs
 have hdn:=zkP (tries:=zaS b 0 1000) (most:=zaS c 0 32) (zaS a 0 1000).toNat (f:=prune f) (t:=goodT t)
 have hQ0:optR f t a b c=zaU (zaS b 0 1000) (zaS c 0 32) (zaS a 0 1000).toNat (prune f) (goodT t):=rfl
 rw[←hQ0] at hdn
 obtain⟨Q,hQ⟩:∃ Q,Q=optR f t a b c:=⟨_,rfl⟩
 rw[←hQ] at hop ok hdn
 obtain⟨⟨F,T⟩,n,dn⟩:=Q
 have os:=ok.sound
 have okk:=ok.k
 have ol:=ok.len
 have oa:=ok.all p3
 have otk:=ok.tk
 obtain⟨otb,_,_,_⟩:=ok.tbl (zj1 t)
 simp only at os okk ol oa otk otb hop hdn
 have hFl:F.length≤60:=by omega
 have tok:=ziY otb otk
 have h64:=(zgM otb).2
 simp only[FL,TF,ResC] at hop
 simp
 refine zab hop ?_
 simp[zaa]
 cases dn with
 | false =>
  rw[if_neg (by simp)] at hdn
  have hcl:=zrK (G:=G) a 1000 (by decide)
  have hn:zaS a 0 1000=(n:Int):=by
   have:0≤zaS a 0 1000:=by unfold zaS; omega
   omega
  rw[hn] at hcl
  simp
  refine zab hcl ?_
  simp
  refine zab hkn ?_
  simp
 | true =>
  rw[if_pos rfl] at hdn
  obtain⟨hr,h0⟩:=hdn
  have hop2:=zfU (G:=G) F T a b c os okk tok (zf5 otk)
  have hQ2:optR F T a b c=((F,T),0,true):=by
   obtain⟨k,hk'⟩:∃ k,(zaS a 0 1000).toNat=k+1:=⟨(zaS a 0 1000).toNat-1,by omega⟩
   rw[optR,zl7 os oa,goodT,if_pos otb,hk',zaU,hr]
  rw[hQ2] at hop2
  have hsm:=zi8 (G:=G) F F (by omega)
  have has:=zpW (G:=G) T tok.1
  have hst:=zrJ (G:=G) T tok.1 (fun r hr=>by
   have:=zeE ((by
    simp only[tblB,Bool.and_eq_true] at otb
    exact List.all_eq_true.1 otb.1.1 r hr:r.may=true))
   omega)
  simp only[FL,TF,ResC,decide_true] at hop2 hsm has hst
  simp[zaa]
  refine zab hop2 ?_
  simp[zaa]
  refine zab hsm ?_
  simp
  refine zab has ?_
  simp
  refine zab has ?_
  simp
  refine zab hst ?_
  simp
  refine zab hkn ?_
  simp
end Go.Ev
