/- Arguments of the statements: instructions, states, records. -/
import Derived.Test.YtogjnjnabikdpaaGreatDoorCheckBW
import Derived.Test.YtogjnjnabikdpaaGreatDoorEvSW
import Derived.Test.YtogjnjnabikdpaaGreatDoorSrcBW
import Derived.Test.YtogjnjnabikdpaaGreatDoorOptOW
import Derived.Test.YtogjnjnabikdpaaGreatDoorDecTW
import Derived.Test.YtogjnjnabikdpaaGreatDoorEvSrcCW
import Derived.Test.YtogjnjnabikdpaaGreatDoorLiveCW
set_option linter.unusedSimpArgs false
set_option linter.unusedVariables false
set_option maxHeartbeats 8000000
set_option maxRecDepth 10000
namespace Go.Ev
open Go Go.RowKit
def i64R(n:Int):Prop:=-9223372036854775808≤n∧n≤9223372036854775807
def In4.ok(x:In4):Prop:=(i64R x.op∧i64R x.jt∧i64R x.jf)∧x.k<4294967296
theorem zoe{n:Int}(h:(Lit.int .i64 n).wf=true):i64R n:=by
 simp[Lit.wf,IntKind.min,IntKind.max,IntKind.signed,IntKind.bits] at h
 unfold i64R
 omega
theorem zrJ{k:IntKind}{cs:List V}(h:zaB (.int k) cs):∃ n,cs=[.int k n]∧(Lit.int k n).wf=true:=by simpa only[zaB] using h
theorem zrK{cs:List V}(h:zaB (.agg [.int .i64,.int .i64,.int .i64,.int .u32]) cs):∃ x:In4,cs=x.cs∧x.ok:=by
 simp only[zaB,zbT] at h
 obtain⟨a,_,rfl,⟨n1,rfl,w1⟩,b,_,rfl,⟨n2,rfl,w2⟩,c,_,rfl,⟨n3,rfl,w3⟩,d,_,rfl,⟨n4,rfl,w4⟩,rfl⟩:=h
 have w4:=zsI w4
 refine⟨⟨n1,n2,n3,n4.toNat⟩,?_,⟨zoe w1,zoe w2,zoe w3⟩,by simp only; omega⟩
 simp[In4.cs,Int.toNat_of_nonneg w4.1]
theorem ztu{cs:List V}(h:zaB (.int .u32) cs):∃ n:Nat,cs=[.int .u32 (n:Int)]∧n<4294967296:=by
 obtain⟨n,rfl,hw⟩:=zrJ h
 have:=zsI hw
 exact⟨n.toNat,by rw[Int.toNat_of_nonneg this.1],by omega⟩
theorem zlb:∀{es:List (List V)},(∀ x∈es,zaB (.agg [.int .i64,.int .i64,.int .i64,.int .u32]) x)→∃ f:List In4,es=IL f∧∀ x∈f,x.ok
 | [],_=>⟨[],rfl,by simp⟩
 | e::es,h=>by
  obtain⟨x,rfl,hx⟩:=zrK (h e (by simp))
  obtain⟨f,rfl,hf⟩:=zlb (es:=es) fun y hy=>h y (by simp[hy])
  refine⟨x::f,by simp[IL],fun y hy=>?_⟩
  simp only[List.mem_cons] at hy
  rcases hy with rfl|hy
  ·exact hx
  ·exact hf y hy
theorem zvs{v:V}(h:zkC (.sl (.agg [.int .i64,.int .i64,.int .i64,.int .u32])) v):∃ f:List In4,v=FL f∧f.length≤maxLen∧∀ x∈f,x.ok:=by
 have h:zaB (.sl (.agg [.int .i64,.int .i64,.int .i64,.int .u32])) [v]:=h
 rw[zaB] at h
 obtain⟨es,hes,hl,he⟩:=h
 obtain⟨f,rfl,hf⟩:=zlb he
 simp only[List.cons.injEq,and_true] at hes
 exact⟨f,by rw[hes]; rfl,by simpa using hl,hf⟩
end Go.Ev
/- Arguments of the statements: tables, budgets. -/
namespace Go.Ev
open Go Go.RowKit
theorem zm1{cs:List V}(h:zaB (.sl (.agg [.int .i64,.int .i64,.int .i64,.int .u32])) cs):∃ f:List In4,cs=[FL f]∧f.length≤maxLen∧∀ x∈f,x.ok:=by
 rw[zaB] at h
 obtain⟨es,hes,hl,he⟩:=h
 obtain⟨f,rfl,hf⟩:=zlb he
 exact⟨f,hes,by simpa using hl,hf⟩
theorem zqZ{cs:List V}(h:zaB (.agg [.sl (.agg [.int .i64,.int .i64,.int .i64,.int .u32]),.sl (.agg [.int .i64,.int .i64,.int .i64,.int .u32]),.int .u32]) cs):∃ r:TR,cs=r.cs∧r.ok:=by
 unfold zaB zbT at h
 obtain⟨a,b,rfl,h1,h⟩:=h
 unfold zbT at h
 obtain⟨c,d,rfl,h2,h⟩:=h
 unfold zbT at h
 obtain⟨f,g,rfl,h3,h⟩:=h
 unfold zbT at h
 subst h
 obtain⟨v,rfl,lv,kv⟩:=zm1 h1
 obtain⟨w,rfl,lw,kw⟩:=zm1 h2
 obtain⟨n,rfl,hn⟩:=ztu h3
 exact⟨⟨v,w,n⟩,rfl,lv,lw,fun x hx=>(kv x hx).2,fun x hx=>(kw x hx).2,hn⟩
theorem zof:∀{es:List (List V)},(∀ x∈es,zaB (.agg [.sl (.agg [.int .i64,.int .i64,.int .i64,.int .u32]),.sl (.agg [.int .i64,.int .i64,.int .i64,.int .u32]),.int .u32]) x)→∃ t:List TR,es=TL t∧∀ r∈t,r.ok
 | [],_=>⟨[],rfl,by simp⟩
 | e::es,h=>by
  obtain⟨x,rfl,hx⟩:=zqZ (h e (by simp))
  obtain⟨f,rfl,hf⟩:=zof (es:=es) fun y hy=>h y (by simp[hy])
  refine⟨x::f,by simp[TL],fun y hy=>?_⟩
  simp only[List.mem_cons] at hy
  rcases hy with rfl|hy
  ·exact hx
  ·exact hf y hy
theorem zvt{v:V}(h:zkC (.sl (.agg [.sl (.agg [.int .i64,.int .i64,.int .i64,.int .u32]),.sl (.agg [.int .i64,.int .i64,.int .i64,.int .u32]),.int .u32])) v):∃ t:List TR,v=TF t∧t.length≤maxLen∧∀ r∈t,r.ok:=by
 have h:zaB (.sl (.agg [.sl (.agg [.int .i64,.int .i64,.int .i64,.int .u32]),.sl (.agg [.int .i64,.int .i64,.int .i64,.int .u32]),.int .u32])) [v]:=h
 rw[zaB] at h
 obtain⟨es,hes,hl,he⟩:=h
 obtain⟨t,rfl,ht⟩:=zof he
 simp only[List.cons.injEq,and_true] at hes
 exact⟨t,by rw[hes]; rfl,by simpa using hl,ht⟩
theorem zvu{v:V}(h:zkC (.agg [.int .i64,.int .i64,.int .i64]) v):∃ a b c:Int,v=.agg [.int .i64 a,.int .i64 b,.int .i64 c]:=by
 unfold zkC at h
 obtain⟨cs,rfl,h⟩:=h
 simp only[zaB,zbT] at h
 obtain⟨a,_,rfl,⟨n1,rfl,w1⟩,b,_,rfl,⟨n2,rfl,w2⟩,c,_,rfl,⟨n3,rfl,w3⟩,rfl⟩:=h
 exact⟨n1,n2,n3,rfl⟩
end Go.Ev
/- Layer 24: the law OptStays. -/
namespace Go.Ev
open Go Go.RowKit
variable {G:Tbl}
theorem zvv[HasL21 G](r:TR):FP G 373 [TV r] (TV r):=by
 refine zak HasL21.h_hurdlelaw21_as (Nat.le_of_ble_eq_true rfl) ?_
 simp[TV,TR.cs]
theorem zp1[HasL21 G](t:List TR)(hl:t.length≤1000000):FP G 374 [TF t] (TF t):=by
 refine zak HasL21.h_hurdlelaw21_As (Nat.le_of_ble_eq_true rfl) ?_
 obtain⟨T,hT⟩:∃ T:Nat→List TR,∀ j,T j=t.take j:=⟨_,fun _=>rfl⟩
 have hT0:T 0=[]:=by rw[hT]; rfl
 have hTl:∀ j,j≤t.length→(T j).length=j:=fun j hj=>by rw[hT,List.length_take]; omega
 simp[TF]
 refine W_up t.length (fun i=>[(0,TF t),(3,.vs (TL (T i)) (.own 0)),(4,.int .i64 i)]) (fun i=>[some (.zone i)]) (fun _=>True) ?_ ?_
 ·simp[zaa,zac,TF,hT0,TL]
 intro i hi _
 by_cases hlt:i<t.length
 ·obtain⟨y,hfy⟩:∃ y,y=t[i]:=⟨_,rfl⟩
  have hg:t[i]?=some y:=by rw[hfy]; exact List.getElem?_eq_getElem _
  have hgg:=zdT hg
  have hte:(TL t)[i]'(by simpa using hlt)=y.cs:=by simp[TL,hfy]
  have ha:=zvv (G:=G) y
  simp only[TV] at ha
  have hyl:y.cs.length=3:=rfl
  have hyt:y.cs.take 3=y.cs:=rfl
  have hyp:=zkS y
  have hTs:TL (T i)++[y.cs]=TL (T (i+1)):=by rw[hT,hT,zkT,List.take_add_one,hg]; rfl
  have hl1:=hTl i (by omega)
  simp(disch:=omega)[ltT,TF,hgg,hte,hyl,hyt]
  refine zab ha ?_
  simp(disch:=omega)[hyl,hyt,hyp,hTs,hl1,zmn,leTn,hlt,zag,zaa,zac,TF,-Int.natCast_add]
 ·have hne:i=t.length:=by omega
  subst hne
  have:T t.length=t:=by rw[hT,List.take_length]
  simp[this,TF]
theorem zrL[HasR3 G][HasR21s G](t:List TR)(hl:t.length≤1000000)(hk:∀ r∈t,r.fr.length≤1000000∧r.to.length≤1000000):FP G 372 [TF t,TF t] (.bool true):=by
 refine zak HasR21s.h_hurdleref21_Same (Nat.le_of_ble_eq_true rfl) ?_
 simp[TF]
 refine W_up t.length (fun i=>[(0,TF t),(1,TF t),(5,.int .i64 i)]) (fun _=>[]) (fun _=>True) ?_ ?_
 ·simp[zaa,zac,TF]
 intro i hi _
 by_cases hlt:i<t.length
 ·obtain⟨y,hfy⟩:∃ y,y=t[i]:=⟨_,rfl⟩
  have hg:t[i]?=some y:=by rw[hfy]; exact List.getElem?_eq_getElem _
  have hgg:=zdT hg
  have hte:(TL t)[i]'(by simpa using hlt)=y.cs:=by simp[TL,hfy]
  obtain⟨k1,k2⟩:=hk y (List.mem_of_getElem? hg)
  have s1:=zjx (G:=G) y.fr y.fr k1
  have s2:=zjx (G:=G) y.to y.to k2
  simp only[FL,decide_true] at s1 s2
  simp(disch:=omega)[ltT,TF,hgg,hte,TR.cs]
  refine zab s1 ?_
  simp(disch:=omega)[ltT,TF,hgg,hte,TR.cs]
  refine zab s2 ?_
  simp(disch:=omega)[hlt,zag,zaa,zac,TF,-Int.natCast_add]
 ·have hne:i=t.length:=by omega
  subst hne
  simp[TF]
theorem zm2[HasR24c G](n most:Int)(h:0≤most):FP G 376 [.int .i64 n,.int .i64 most] (.int .i64 (zaX n 0 most)):=by
 refine zak HasR24c.h_hurdleref24_Clip (Nat.le_of_ble_eq_true rfl) ?_
 by_cases h1:n<0
 ·have:zaX n 0 most=0:=by unfold zaX; omega
  simp[h1,this]
 ·by_cases h2:most<n
  ·have:zaX n 0 most=most:=by unfold zaX; omega
   simp[h1,h2,this]
  ·have:zaX n 0 most=n:=by unfold zaX; omega
   simp[h1,h2,this]
end Go.Ev
/- Layer 24: tables, as the document has them. -/
namespace Go.Ev
open Go Go.RowKit
variable {G:Tbl}
theorem remN(a b:Nat):remI (a:Int) (b:Int)=((a%b:Nat):Int):=zkB
theorem zim{a b:Nat}(ha:a<4294967296):quoI .u32 (a:Int) (b:Int)=((a/b:Nat):Int):=by
 have h:a/b≤a:=Nat.div_le_self _ _
 unfold quoI
 have h2:((a:Int).tdiv (b:Int))=((a/b:Nat):Int):=rfl
 rw[h2]
 exact IntWalk.u32_in _ ⟨Int.natCast_nonneg _,by rw[Int.ofNat_le.symm] at h; omega⟩
theorem zvw[HasR3e G](x:In4)(hr:zaV x=true)(hk:x.k<4294967296):FP G 366 [IV x] (.vs (nats .u8 (encN x)) .no):=by
 refine zak HasR3e.h_hurdleref03_One (Nat.le_of_ble_eq_true rfl) ?_
 obtain⟨r1,r2,r3⟩:=znI hr
 obtain⟨o,ho⟩:∃ o:Nat,x.op=o:=⟨x.op.toNat,by omega⟩
 obtain⟨jt,hjt⟩:∃ o:Nat,x.jt=o:=⟨x.jt.toNat,by omega⟩
 obtain⟨jf,hjf⟩:∃ o:Nat,x.jf=o:=⟨x.jf.toNat,by omega⟩
 obtain⟨k,hxk2⟩:∃ k,x.k=k:=⟨_,rfl⟩
 have hcs:x.cs=[.int .i64 o,.int .i64 jt,.int .i64 jf,.int .u32 k]:=by rw[In4.cs,ho,hjt,hjf,hxk2]
 have hen:encN x=[o%256,o/256%256,jt%256,jf%256]++lowL k 4:=by rw[encN,ho,hjt,hjf,hxk2]; rfl
 have ho0:o/256%256=0:=by
  have:o/256=0:=Nat.div_eq_of_lt (by omega)
  rw[this]
 have hkb:k<4294967296:=by omega
 have m1:remI (o:Int) 256=((o%256:Nat):Int):=remN o 256
 have m2:remI (k:Int) 256=((k%256:Nat):Int):=remN k 256
 have q1:quoI .u32 (k:Int) 256=((k/256:Nat):Int):=zim (b:=256) hkb
 have q2:quoI .u32 (k:Int) 65536=((k/65536:Nat):Int):=zim (b:=65536) hkb
 have q3:quoI .u32 (k:Int) 16777216=((k/16777216:Nat):Int):=zim (b:=16777216) hkb
 have m3:remI ((k/256:Nat):Int) 256=((k/256%256:Nat):Int):=remN _ 256
 have m4:remI ((k/65536:Nat):Int) 256=((k/65536%256:Nat):Int):=remN _ 256
 have hL:lowL k 4=[k%256,k/256%256,k/65536%256,k/16777216%256]:=by simp[lowL,List.range,List.range.loop]
 rw[hen,ho0,hL]
 simp(disch:=omega)[IV,hcs,m1,m2,m3,m4,q1,q2,q3,ziD,nats,-Int.natCast_ediv,-Int.natCast_emod]
theorem zkZ[HasR3e G](w:List In4)(hw:w.length≤1000)(hr:∀ x∈w,zaV x=true)(hk:∀ x∈w,x.k<4294967296):FP G 367 [FL w] (.vs (nats .u8 (zaW w)) .no):=by
 refine zak HasR3e.h_hurdleref03_Encode (Nat.le_of_ble_eq_true rfl) ?_
 obtain⟨T,hT⟩:∃ T:Nat→List Nat,∀ j,T j=zaW (w.take j):=⟨_,fun _=>rfl⟩
 have hT0:T 0=[]:=by rw[hT]; rfl
 simp[FL]
 refine W_up w.length (fun i=>[(0,FL w),(3,.vs (nats .u8 (T i)) (.own 0)),(4,.int .i64 i)]) (fun i=>[some (.zone (8*i))]) (fun _=>True) ?_ ?_
 ·simp[zaa,zac,FL,hT0]
 intro i hi _
 by_cases hlt:i<w.length
 ·obtain⟨x,hfx⟩:∃ x,x=w[i]:=⟨_,rfl⟩
  have hgg:=zaY hlt
  rw[←hfx] at hgg
  have hxm:x∈w:=by rw[hfx]; exact List.getElem_mem hlt
  have hon:=zvw (G:=G) x (hr x hxm) (hk x hxm)
  have hTs:T (i+1)=T i++encN x:=by
   rw[hT,hT,List.take_add_one,List.getElem?_eq_getElem hlt,Option.toList_some,zmm,hfx]
  have hTl:(T i).length=8*i:=by rw[hT,zbD,List.length_take]; omega
  have hxl:x.cs.length=4:=rfl
  have hxt:x.cs.take 4=x.cs:=rfl
  have hel:=zpt x
  have hap:nats .u8 (T i)++nats .u8 (encN x)=nats .u8 (T (i+1)):=by rw[hTs]; simp[nats]
  have hne:nats .u8 (encN x)≠[]:=by
   intro h
   have:=congrArg List.length h
   simp[nats,hel] at this
  simp only[IV] at hon
  simp(disch:=omega)[ltT,FL,hgg,hfx.symm,hxl,hxt]
  refine zab hon ?_
  simp(disch:=omega)[hap,hne,hTl,hel,leTn,hlt,zag,zaa,zac,FL,-Int.natCast_add]
  omega
 ·have hne:i=w.length:=by omega
  subst hne
  have:T w.length=zaW w:=by rw[hT,List.take_length]
  simp[this,FL]
theorem zlI[HasR3e G][HasR21 G](r:TR)(hr:r.ok)(hm:r.may=true):FP G 369 [TV r] (.vs (nats .u8 r.byN) .no):=by
 refine zak HasR21.h_hurdleref21_Bytes (Nat.le_of_ble_eq_true rfl) ?_
 obtain⟨h1,h2,h3,h4,h5⟩:=hr
 simp only[TR.may,Bool.and_eq_true,decide_eq_true_eq] at hm
 obtain⟨⟨⟨m1,m2⟩,_⟩,_⟩:=hm
 obtain⟨a1,a2⟩:=zcz m1
 obtain⟨b1,b2⟩:=zcz m2
 have w1:=zkZ (G:=G) r.fr (by omega) a2 h3
 have w2:=zkZ (G:=G) r.to (by omega) b2 h4
 simp only[FL] at w1 w2
 obtain⟨v,hv⟩:∃ v,r.lv=v:=⟨_,rfl⟩
 have hvb:v<4294967296:=by omega
 have e2:remI (v:Int) 256=((v%256:Nat):Int):=remN v 256
 have q1:quoI .u32 (v:Int) 256=((v/256:Nat):Int):=zim (b:=256) hvb
 have q2:quoI .u32 (v:Int) 65536=((v/65536:Nat):Int):=zim (b:=65536) hvb
 have q3:quoI .u32 (v:Int) 16777216=((v/16777216:Nat):Int):=zim (b:=16777216) hvb
 have e3:remI ((v/256:Nat):Int) 256=((v/256%256:Nat):Int):=remN _ 256
 have e4:remI ((v/65536:Nat):Int) 256=((v/65536%256:Nat):Int):=remN _ 256
 obtain⟨B,hB⟩:∃ B:List Nat,B=lowL v 4++[r.fr.length%256,r.to.length%256]:=⟨_,rfl⟩
 have hBl:B.length=6:=by rw[hB]; simp[lowL]
 have hBe:[[V.int .u8 (v%256:Nat)],[V.int .u8 (v/256%256:Nat)],[V.int .u8 (v/65536%256:Nat)],[V.int .u8 (v/16777216%256:Nat)],[V.int .u8 (r.fr.length%256:Nat)],[V.int .u8 (r.to.length%256:Nat)]]=nats .u8 B:=by
  rw[hB]; simp[nats,lowL,List.range,List.range.loop]
 obtain⟨D1,hD1⟩:∃ D1,D1=B++zaW r.fr:=⟨_,rfl⟩
 have hD2:r.byN=D1++zaW r.to:=by rw[TR.byN,hv,←hB,←hD1]
 have l1:D1.length=6+8*r.fr.length:=by rw[hD1,List.length_append,hBl,zbD]
 have q1':(zaW r.fr).length=8*r.fr.length:=zbD _
 have q2':(zaW r.to).length=8*r.to.length:=zbD _
 have p1:nats .u8 B++nats .u8 (zaW r.fr)=nats .u8 D1:=by rw[hD1]; simp[nats]
 have p2:nats .u8 D1++nats .u8 (zaW r.to)=nats .u8 r.byN:=by rw[hD2]; simp[nats]
 have n1:∀ l:List Nat,(nats .u8 l=[])=(l=[]):=fun l=>by simp[nats]
 have n2:∀ w:List In4,(zaW w=[])=(w=[]):=fun w=>propext ⟨fun h=>List.eq_nil_of_length_eq_zero (by have:=zbD w; rw[h] at this; simp at this; omega),fun h=>by rw[h]; rfl⟩
 have hf0:¬r.fr=[]:=fun h=>by
  have:r.to.length<r.fr.length:=by assumption
  rw[h] at this; simp at this
 simp(disch:=omega)[TV,TR.cs,hv,q1,q2,q3,e2,e3,e4,ziD,hBe,-Int.natCast_ediv,-Int.natCast_emod]
 refine zab w1 ?_
 by_cases h0:r.to=[]
 ·have e0:r.byN=D1:=by rw[hD2,h0]; simp[zaW]
  simp(disch:=omega)[n1,n2,hf0,hBl,q1',p1,leTn]
  refine zab w2 ?_
  simp(disch:=omega)[n1,n2,h0,e0]
 ·simp(disch:=omega)[n1,n2,hf0,hBl,q1',p1,leTn]
  refine zab w2 ?_
  simp(disch:=omega)[n1,n2,h0,l1,q2',p2,leTn]
theorem zp2:∀(i:Nat) {a b:List UInt8},a.take i=b.take i→i≤a.length→i≤b.length→Op.bytesLess a b=Op.bytesLess (a.drop i) (b.drop i)
 | 0,_,_,_,_,_=>rfl
 | i+1,[],_,_,h,_=>by simp at h
 | i+1,_::_,[],_,_,h=>by simp at h
 | i+1,x::a,y::b,h,h1,h2=>by
  simp only[List.take_succ_cons,List.cons.injEq] at h
  obtain⟨rfl,h⟩:=h
  have:=zp2 i h (by simpa using h1) (by simpa using h2)
  simp[Op.bytesLess,this]
theorem zrM[HasR21 G](a b:List Nat)(ha:∀ x∈a,x<256)(hb:∀ x∈b,x<256)(la:a.length≤1000000)(lb:b.length≤1000000) :
  FP G 370 [.vs (nats .u8 a) .no,.vs (nats .u8 b) .no] (.bool (Op.bytesLess (a.map UInt8.ofNat) (b.map UInt8.ofNat))):=by
 refine zak HasR21.h_hurdleref21_less (Nat.le_of_ble_eq_true rfl) ?_
 simp
 refine W_up a.length (fun i=>[(0,.vs (nats .u8 a) .no),(1,.vs (nats .u8 b) .no),(5,.int .i64 i)]) (fun _=>[]) (fun i=>i≤b.length∧a.take i=b.take i) ?_ ?_
 ·simp[zaa,zac]
 rintro i hi ⟨hib,hP⟩
 have hD:=zp2 (a:=a.map UInt8.ofNat) (b:=b.map UInt8.ofNat) i (by rw[←List.map_take,←List.map_take,hP]) (by simpa using hi) (by simpa using hib)
 by_cases h1:i<a.length
 ·by_cases h2:i<b.length
  ·obtain⟨x,hx⟩:∃ x,x=a[i]:=⟨_,rfl⟩
   obtain⟨y,hy⟩:∃ y,y=b[i]:=⟨_,rfl⟩
   have hxb:=ha x (by rw[hx]; exact List.getElem_mem h1)
   have hyb:=hb y (by rw[hy]; exact List.getElem_mem h2)
   have gx:a[i]?=some x:=by rw[hx]; exact List.getElem?_eq_getElem h1
   have gy:b[i]?=some y:=by rw[hy]; exact List.getElem?_eq_getElem h2
   have dx:(a.map UInt8.ofNat).drop i=UInt8.ofNat x::(a.map UInt8.ofNat).drop (i+1):=by rw[List.drop_eq_getElem_cons (by simpa using h1)]; simp[hx]
   have dy:(b.map UInt8.ofNat).drop i=UInt8.ofNat y::(b.map UInt8.ofNat).drop (i+1):=by rw[List.drop_eq_getElem_cons (by simpa using h2)]; simp[hy]
   rw[dx,dy] at hD
   have tx:(UInt8.ofNat x).toNat=x:=by simp; omega
   have ty:(UInt8.ofNat y).toNat=y:=by simp; omega
   by_cases e:x=y
   ·have hP2:a.take (i+1)=b.take (i+1):=by rw[List.take_add_one,List.take_add_one,hP,gx,gy,e]
    have hbne:((x:Int) !=(y:Int))=false:=by simp[e]
    simp(disch:=omega)[ltT,h1,h2,gx,gy,hx.symm,hy.symm,hbne,zag,zaa,zac,hP2,-Int.natCast_add]
    omega
   ·have hbne:((x:Int) !=(y:Int))=true:=by simp; omega
    have hne:¬UInt8.ofNat x=UInt8.ofNat y:=fun h=>e (by rw[←tx,←ty,h])
    have hR:Op.bytesLess (a.map UInt8.ofNat) (b.map UInt8.ofNat)=decide (x<y):=by
     rw[hD]
     simp only[Op.bytesLess]
     have:(UInt8.ofNat x<UInt8.ofNat y)=(x<y):=by rw[UInt8.lt_iff_toNat_lt,tx,ty]
     simp[this,hne]
    simp(disch:=omega)[ltT,h1,h2,gx,gy,hx.symm,hy.symm,hbne,hR,-Int.natCast_add]
  ·have hib':i=b.length:=by omega
   have hR:Op.bytesLess (a.map UInt8.ofNat) (b.map UInt8.ofNat)=false:=by
    rw[hD,List.drop_eq_nil_of_le (as:=b.map UInt8.ofNat) (by simp; omega)]
    cases(a.map UInt8.ofNat).drop i<;>rfl
   simp(disch:=omega)[ltT,h1,h2,hR]
   omega
 ·have hia:i=a.length:=by omega
  have hR:Op.bytesLess (a.map UInt8.ofNat) (b.map UInt8.ofNat)=decide (a.length<b.length):=by
   rw[hD,List.drop_eq_nil_of_le (as:=a.map UInt8.ofNat) (by simp; omega)]
   by_cases hlb:a.length<b.length
   ·rw[List.drop_eq_getElem_cons (by simp; omega)]
    simp[Op.bytesLess,hlb]
   ·rw[List.drop_eq_nil_of_le (by simp; omega)]
    simp[Op.bytesLess,hlb]
  subst hia
  simp[hR]
end Go.Ev
/- Layer 24: the law OptLearns. -/
namespace Go.Ev
open Go Go.RowKit
variable {G:Tbl}
theorem ztv[HasR2 G][HasR5o G][HasR17 G][HasR21 G](r:TR)(hr:r.ok)(h1:r.fr.length≤1000000)(h2:r.to.length≤1000000):FP G 368 [TV r] (.bool r.may):=by
 refine zak HasR21.h_hurdleref21_May (Nat.le_of_ble_eq_true rfl) ?_
 obtain⟨_,_,h3,h4,h5⟩:=hr
 have w1:=zgJ (G:=G) r.fr h1 h3
 have w2:=zgJ (G:=G) r.to h2 h4
 simp only[FL] at w1 w2
 simp[TV,TR.cs]
 refine zab w1 ?_
 cases e1:winB r.fr with
 | false=>simp[TR.may,e1]
 | true =>
  simp
  refine zab w2 ?_
  cases e2:winB r.to with
  | false=>simp[TR.may,e1,e2]
  | true =>
   by_cases hl:r.to.length<r.fr.length
   ·by_cases hv:r.lv<262144
    ·have hv':((r.lv:Int)<262144)=True:=eq_true (by omega)
     simp[TR.may,e1,e2,hl,hv,hv']
    ·have hv':((r.lv:Int)<262144)=False:=eq_false (by omega)
     simp[TR.may,e1,e2,hl,hv,hv']
   ·simp[TR.may,e1,e2,hl]
theorem zp3{r:TR}(h:r.may=true):r.byN.length≤1000:=by
 obtain⟨h1,h2⟩:=zd3 h
 simp only[TR.byN,List.length_append,zle,zbD,List.length_cons,List.length_nil]
 omega
theorem zq0[HasR2 G][HasR5o G][HasR17 G][HasR3e G][HasR21 G](t:List TR)(hl:t.length≤1000000)(hk:∀ r∈t,r.ok)(hs:∀ r∈t,r.fr.length≤1000000∧r.to.length≤1000000):FP G 371 [TF t] (.bool (tblB t)):=by
 refine zak HasR21.h_hurdleref21_Right (Nat.le_of_ble_eq_true rfl) ?_
 simp[TF]
 refine W_up t.length (fun i=>[(0,TF t),(3,.int .i64 i)]) (fun _=>[]) (fun i=>okT t i) ?_ ?_
 ·simp[zaa,zac,TF]
  intro j hj; omega
 intro i hi hP
 by_cases hlt:i<t.length
 ·obtain⟨x,hfx⟩:∃ x,x=t[i]:=⟨_,rfl⟩
  have hg:t[i]?=some x:=by rw[hfx]; exact List.getElem?_eq_getElem hlt
  have hgg:=zdT hg
  have hxm:x∈t:=List.mem_of_getElem? hg
  have hxk:=hk x hxm
  have hxl:x.cs.length=3:=rfl
  have hxt:x.cs.take 3=x.cs:=rfl
  have hte:(TL t)[i]'(by simpa using hlt)=x.cs:=by simp[TL,hfx]
  have hrt:=ztv (G:=G) x hxk (hs x hxm).1 (hs x hxm).2
  simp(disch:=omega)[ltT,TF,hgg,hte,hxl,hxt]
  simp only[TV] at hrt
  refine zab hrt ?_
  cases hm:x.may with
  | false =>
   have hR:=zkR hg (.inl hm)
   simp[hR]
  | true =>
   by_cases h0:0<i
   ·obtain⟨q,hq⟩:∃ q,q=t[i-1]'(by omega):=⟨_,rfl⟩
    have hgq:t[i-1]?=some q:=by rw[hq]; exact List.getElem?_eq_getElem (by omega)
    have hqe:(TL t)[i-1]'(by simp; omega)=q.cs:=by simp[TL,hq]
    have hqg:=zdT hgq
    have hqm:=(hP (i-1) (by omega) q hgq).1
    have hqk:=hk q (List.mem_of_getElem? hgq)
    have hql:q.cs.length=3:=rfl
    have hqt:q.cs.take 3=q.cs:=rfl
    have b1:=zlI (G:=G) q hqk hqm
    have b2:=zlI (G:=G) x hxk hm
    have ls:=zrM (G:=G) q.byN x.byN (zpw q) (zpw x) (Nat.le_trans (zp3 hqm) (by decide)) (Nat.le_trans (zp3 hm) (by decide))
    rw[←zpv,←zpv] at ls
    simp only[TV] at b1 b2
    have s1:subI .i64 (i:Int) 1=((i-1:Nat):Int):=by rw[zaK]<;>omega
    simp(disch:=omega)[h0,s1,hqg,hqe,hql,hqt,hgg,hte,hxl,hxt,leTn,ltTn]
    refine zab b1 ?_
    simp(disch:=omega)[hgg,hte,hxl,hxt,ltTn,hlt]
    refine zab b2 ?_
    simp
    refine zab ls ?_
    cases hlb:zcI q x with
    | false =>
     have hR:=zkR hg (.inr ⟨q,h0,hgq,hlb⟩)
     have hlb':Op.bytesLess q.by x.by=false:=hlb
     simp[hlb',hR]
    | true =>
     have hlb':Op.bytesLess q.by x.by=true:=hlb
     have hP2:okT t (i+1):=fun j hj r hr=>by
      rcases Nat.lt_succ_iff_lt_or_eq.1 hj with h|rfl
      ·exact hP j h r hr
      ·rw[hg] at hr; cases hr
       exact⟨hm,fun q' _ hq'=>by rw[hgq] at hq'; cases hq'; exact hlb⟩
     simp(disch:=omega)[hlb',hlt,zag,zaa,zac,TF,-Int.natCast_add]
     exact hP2
   ·have hi0:i=0:=by omega
    subst hi0
    have hP2:okT t 1:=fun j hj r hr=>by
     have:j=0:=by omega
     subst this
     rw[hg] at hr; cases hr
     exact⟨hm,fun q h0=>absurd h0 (by omega)⟩
    have d0:addI .i64 0 1=1:=by rw[zav]<;>omega
    simp(disch:=omega)[zaa,zac,TF,d0,hlt,hP2]
 ·have hne:i=t.length:=by omega
  subst hne
  have:=zqL hP
  by_cases h64:t.length≤64
  ·have h:((t.length:Int)≤64)=True:=eq_true (by omega)
   simp[this,h64,h,TF]
  ·have h:((t.length:Int)≤64)=False:=eq_false (by omega)
   simp[this,h64,h,TF]
theorem zrN[HasR2 G][HasR5o G][HasR17 G][HasR3e G][HasR21 G][HasL21 G][HasL24g G](t:List TR)(hl:t.length≤1000000)(hk:∀ r∈t,r.ok)(hs:∀ r∈t,r.fr.length≤1000000∧r.to.length≤1000000):FP G 380 [TF t] (TF (goodT t)):=by
 refine zak HasL24g.h_hurdlelaw24_good (Nat.le_of_ble_eq_true rfl) ?_
 have ha:=zp1 (G:=G) t hl
 have hr:=zq0 (G:=G) t hl hk hs
 simp only[TF] at ha hr
 simp[TF]
 refine zab ha ?_
 simp
 refine zab hr ?_
 cases htb:tblB t with
 | false=>simp[goodT,htb,TL]
 | true=>simp[goodT,htb]
end Go.Ev
/- A filter with another window, as the document has it: hurdleref22.Put. -/
namespace Go.Ev
open Go Go.RowKit
variable {G:Tbl}
def FC(l:List In4):List V:=(IL l).flatten
theorem zko(l:List In4):∀ f∈IL l,f.length=4:=fun f hf=>by
 simp only[IL,List.mem_map] at hf
 obtain⟨x,_,rfl⟩:=hf
 rfl
theorem zdv(l:List In4):(FC l).length=l.length*4:=by rw[FC,zaO (zko l)]; simp[IL]
theorem zgU(x:In4)(l:List In4):FC (x::l)=x.cs++FC l:=by simp[FC,IL]
theorem zp4(l:List In4):(FC l).all V.pure=true:=by
 induction l with
 | nil=>rfl
 | cons x l ih=>rw[zgU,List.all_append,ih]; rfl
theorem zdr(n:Nat)(l:List In4):clL n (FC l)=FC l:=by
 rw[zan]
 have:∀ v∈FC l,v.cl n=v:=fun v hv=>V.cl_pure n v (List.all_eq_true.1 (zp4 l) v hv)
 exact List.map_id' _ |>.symm▸List.map_congr_left this |>.trans (by simp)
theorem zm3:∀ l:List In4,zbb 4 l.length (FC l)=IL l
 | []=>rfl
 | x::l=>by
  have hx:x.cs.length=4:=rfl
  rw[List.length_cons,zbb,zgU,List.take_left' hx,List.drop_left' hx,zm3 l]
  rfl
theorem zg7:∀(l:List In4) (j m:Nat) (x y:In4) (v:V),l[j]?=some x→m<4→y.cs=x.cs.set m v →
  (FC l).take (j*4+m)++v::(FC l).drop (j*4+m+1)=FC (l.set j y)
 | [],j,m,x,y,v,h,_,_=>by simp at h
 | z::l,0,m,x,y,v,h,hm,hy=>by
  simp only[List.getElem?_cons_zero,Option.some.injEq] at h
  subst h
  have hz:z.cs.length=4:=rfl
  rw[List.set_cons_zero,zgU,zgU,hy,Nat.zero_mul,Nat.zero_add,List.take_append_of_le_length (by omega),List.drop_append_of_le_length (by omega),
   List.set_eq_take_append_cons_drop,if_pos (by omega)]
  simp
 | z::l,j+1,m,x,y,v,h,hm,hy=>by
  simp only[List.getElem?_cons_succ] at h
  have hz:z.cs.length=4:=rfl
  have ih:=zg7 l j m x y v h hm hy
  rw[List.set_cons_succ,zgU,zgU,←ih]
  have e1:(j+1)*4+m=z.cs.length+(j*4+m):=by omega
  have e2:z.cs.length+(j*4+m)+1=z.cs.length+(j*4+m+1):=by omega
  rw[e1,e2,List.take_length_add_append,List.drop_length_add_append,List.append_assoc]
def gv(l:List In4)(k:Nat):V:=if l=[] then .vs [] .full else .gs k l.length
def gb(l:List In4):Option Blk:=if l=[] then none else some (.grow (FC l) 4)
def gz(l:List In4):Option Blk:=if l=[] then none else some (.zone 1)
theorem zu8(l:List In4)(k:Nat):(gz l).map (Blk.cl k)=gz l:=by unfold gz; split<;>rfl
theorem appA(l:List In4)(tk:Tk)(h:l.length≤1000000):zdY false 0 4 32 (.vs [] .full) (.vs (IL l) tk) [none,none,none]=some (gv l 0,[gb l,none,none]):=by
 by_cases h0:l=[]
 ·subst h0; simp[zdY,gv,gb,IL]
 ·have h1:IL l≠[]:=by rw[Ne,zeY]; exact h0
  have h2:l.length*32≤140737488355328:=by omega
  have h3:=zko l
  have h4:(IL l).length=l.length:=by simp[IL]
  simp only[zdY,V.elems?,h1,h4,h2,zay,gv,gb,h0,if_false,zf7,zcS,Bool.false_eq_true]
  simp[FC]
  exact h1
theorem appB(l m:List In4)(tk:Tk)(h:l.length≤1000000)(h':m.length≤1000000):zdY false 1 4 32 (gv l 0) (.vs (IL m) tk) [gb l,none,none]=some (gv (l++m) 1,[gz l,gb (l++m),none]):=by
 have h3:=zko m
 have h4:(IL m).length=m.length:=by simp[IL]
 by_cases h0:l=[]
 ·subst h0
  by_cases h5:m=[]
  ·subst h5; simp[zdY,gv,gb,gz,IL]
  ·have h1:IL m≠[]:=by rw[Ne,zeY]; exact h5
   have h2:m.length*32≤140737488355328:=by omega
   simp only[zdY,V.elems?,h1,h4,h2,zay,gv,gb,gz,h5,if_false,if_true,zf7,zcS,Bool.false_eq_true,List.nil_append]
   simp[FC]
   exact h1
 ·have h5:l++m≠[]:=by simp[h0]
  have h2:(l.length+m.length)*32≤140737488355328:=by omega
  simp only[zdY,V.elems?,gv,gb,gz,h0,h5,if_false,h4,zf7,zcS,Bool.false_eq_true]
  simp[zdv,h2,zay,FC,←zkm]
  rw[←List.length_flatten]; exact zdv l
theorem appC(l m:List In4)(tk:Tk)(h:l.length≤1000000)(h':m.length≤1000000)(hm:m≠[])(p:Option Blk) :
  zdY true 2 4 32 (gv l 1) (.vs (IL m) tk) [p,gb l,none]=some (.rs 2 0 (l++m).length 4,[p,gz l,some (.cells (FC (l++m)))]):=by
 have h3:=zko m
 have h4:(IL m).length=m.length:=by simp[IL]
 have h1:IL m≠[]:=by rw[Ne,zeY]; exact hm
 by_cases h0:l=[]
 ·subst h0
  have h2:m.length*32≤140737488355328:=by omega
  simp only[zdY,V.elems?,h1,h4,h2,zay,gv,gb,gz,if_false,if_true,zf7,zcS,List.nil_append]
  simp[FC]
  exact h1
 ·have h2:(l.length+m.length)*32≤140737488355328:=by omega
  simp only[zdY,V.elems?,gv,gb,gz,h0,if_false,if_true,h4,zf7,zcS]
  simp[zdv,h2,zay,FC,←zkm]
  rw[←List.length_flatten]; exact zdv l
theorem zeG[HasR22 G](p a n m:Nat)(h:p≤5000000000)(hn:p≤a∨n≤p+m)(hn2:n≤10000)(hm:m≤10000):FP G 212 [.int .i64 p,.int .i64 a,.int .i64 n,.int .i64 m] (.int .i64 (if p≤a then p else p+m-n:Nat)):=by
 refine zak HasR22.h_hurdleref22_place (Nat.le_of_ble_eq_true rfl) ?_
 by_cases h1:p≤a
 ·have h1':((p:Int)≤(a:Int))=True:=eq_true (by omega)
  simp[h1,h1']
 ·have h1':((p:Int)≤(a:Int))=False:=eq_false (by omega)
  have e1:subI .i64 (p:Int) (n:Int)=(p:Int)-n:=by rw[zaK]<;>omega
  have e2:addI .i64 ((p:Int)-n) (m:Int)=((p+m-n:Nat):Int):=by rw[zav]<;>omega
  simp[h1,h1',e1,e2,-Int.natCast_add]
def zdV(f:List In4)(a n:Nat)(w:List In4)(i:Nat):List In4 :=
 pre f a (a+n) (n-w.length) (min i a)++(f.take a).drop i++w++f.drop (a+n)
theorem ztw(f w:List In4)(a n:Nat):zdV f a n w 0=f.take a++w++f.drop (a+n):=by simp[zdV,pre]
theorem zvx{f w:List In4}{a n:Nat}(hbd:a+n≤f.length)(i:Nat):(zdV f a n w i).length=f.length-n+w.length:=by
 simp only[zdV,List.length_append,zc4,List.length_drop,List.length_take]; omega
theorem zgV{f w:List In4}{a n i:Nat}(hi:a≤i):zdV f a n w i=putL f a n w:=by
 have h:(f.take a).drop i=[]:=List.drop_eq_nil_of_le (by rw[List.length_take]; omega)
 rw[zdV,Nat.min_eq_right hi,h,putL,List.append_nil]
theorem zvy{f w:List In4}{a n i:Nat}{x:In4}(hi:i<a)(hg:f[i]?=some x) :
  (zdV f a n w i)[i]?=some x∧(zdV f a n w i).set i (putI a (a+n) (n-w.length) i x)=zdV f a n w (i+1):=by
 have hd:(f.take a).drop i=x::(f.take a).drop (i+1):=by
  have hl:i<(f.take a).length:=by have:=(List.getElem?_eq_some_iff.1 hg).1; rw[List.length_take]; omega
  rw[List.drop_eq_getElem_cons hl,List.getElem_take,(List.getElem?_eq_some_iff.1 hg).2]
 have hp:(pre f a (a+n) (n-w.length) i).length=i:=zc4 ..
 rw[zdV,zdV,Nat.min_eq_left (by omega),Nat.min_eq_left (by omega),hd,zox,List.getD,hg]
 simp only[List.append_assoc,List.cons_append]
 refine⟨?_,?_⟩
 ·rw[List.getElem?_append_right (by omega),hp,Nat.sub_self]; rfl
 ·rw[List.set_append_right _ _ (by omega),hp,Nat.sub_self]
  simp
theorem ztx{f w:List In4}{a n i:Nat}{x:In4}(hi:a+n≤i)(hg:f[i]?=some x)(hbd:a+n≤f.length)(hw:w.length≤n) :
  (zdV f a n w i)[i-n+w.length]?=some x:=by
 have hl:=(List.getElem?_eq_some_iff.1 hg).1
 rw[zgV (by omega),putL,List.getElem?_append_right (by simp only[List.length_append,zc4]; omega),List.getElem?_drop]
 rw[←hg]; congr 1
 simp only[List.length_append,zc4]; omega
theorem zmo[HasR2 G][HasR5 G][HasR5o G][HasR17 G][HasR22 G](f w:List In4)(a n:Nat)(hf:f.length≤maxLen)(hw:w.length≤1000000)(hk:∀ x∈f,x.k<4294967296)(hkw:∀ x∈w,x.k<4294967296)(h:zhE f a n w=true) :
  FP G 213 [FL f,.int .i64 a,.int .i64 n,FL w] (.tup [.vs (IL (putL f a n w)) .no,.int .i64 0]):=by
 refine zak HasR22.h_hurdleref22_Put (Nat.le_of_ble_eq_true rfl) ?_
 have hfr:=zow (G:=G) f a n hf hk
 have hwr:=zgJ (G:=G) w hw hkw
 simp only[zhE,Bool.and_eq_true,decide_eq_true_eq] at h
 obtain⟨⟨h1,h2⟩,h3⟩:=h
 rw[h1] at hfr
 rw[h2] at hwr
 simp only[zcj,zbc,inB,Bool.and_eq_true,decide_eq_true_eq] at h1
 obtain⟨hs,⟨_,i2,i3,i4⟩,hfn⟩:=h1
 simp only[Int.toNat_natCast] at hfn
 have hlen:=zcg hs
 have hw32:w.length≤32:=by simp only[winB,Bool.and_eq_true,decide_eq_true_eq] at h2; exact h2.1
 have hbd:a+n≤f.length:=by omega
 have h3':((n:Int)<(w.length:Int))=False:=eq_false (by omega)
 have aa:addI .i64 (a:Int) (n:Int)=((a+n:Nat):Int):=addN (by omega)
 have c1:((a:Int)≤(f.length:Int))=True:=eq_true (by omega)
 have c2:(((a+n:Nat):Int)≤(f.length:Int))=True:=eq_true (by omega)
 simp only[FL] at hfr hwr
 simp[FL]
 refine zab hfr ?_
 simp
 refine zab hwr ?_
 obtain⟨A,hA⟩:∃ A,A=f.take a:=⟨_,rfl⟩
 obtain⟨B,hB⟩:∃ B,B=f.drop (a+n):=⟨_,rfl⟩
 have hlast:=znh hs hfn (by omega) hbd
 have hB0:B≠[]:=by intro h; have:=congrArg List.length h; rw[hB,List.length_drop] at this; simp at this; omega
 have hAl:A.length=a:=by rw[hA,List.length_take]; omega
 have hBl:B.length=f.length-(a+n):=by rw[hB,List.length_drop]
 have eA:(IL f).take a=IL A:=by rw[zg1,hA]
 have eB:(IL f).drop (a+n)=IL B:=by rw[zg0,hB]
 have eB2:List.take (f.length-(a+n)) (IL B)=IL B:=by rw[List.take_of_length_le]; simp[IL,hBl]
 have p1:=appA A .no (by omega)
 have p2:=appB A w .no (by omega) hw
 have p3:=appC (A++w) B .full (by simp only[List.length_append]; omega) (by omega) hB0 (gz A)
 have p4:=appC (A++w) B .no (by simp only[List.length_append]; omega) (by omega) hB0 (gz A)
 obtain⟨T,hT⟩:∃ T:Nat→List In4,∀ j,T j=zdV f a n w j:=⟨_,fun _=>rfl⟩
 have hT0:A++w++B=T 0:=by rw[hT,ztw,hA,hB]
 have hTl:∀ j,(T j).length=f.length-n+w.length:=fun j=>by rw[hT,zvx hbd]
 rw[hT0] at p3 p4
 simp[h3',aa,c1,c2,eA,p1,p2,eB,eB2,p3,p4,zaa,-Int.natCast_add]
 have g0:=zu8 A
 have g1:=zu8 (A++w)
 generalize gz A=q0 at *
 generalize gz (A++w)=q1 at *
 refine W_up f.length (fun i=>[(0,FL f),(1,.int .i64 a),(2,.int .i64 n),(3,FL w),(10,.rs 2 0 (f.length-n+w.length) 4),(11,.int .i64 i)]) (fun i=>[q0,q1,some (.cells (FC (T i)))]) (fun _=>True) ?_ ?_
 ·simp[zaa,zac,FL,hTl,g0,g1,zdr]
 intro i hi _
 by_cases hlt:i<f.length
 ·obtain⟨x,hfx⟩:∃ x,x=f[i]:=⟨_,rfl⟩
  have hgg:=zaY hlt
  rw[←hfx] at hgg
  have hfx:=hfx.symm
  have hg:f[i]?=some x:=by rw[List.getElem?_eq_getElem hlt,hfx]
  have hxm:x∈f:=hfx▸List.getElem_mem hlt
  have hkk:=hk x hxm
  have hbo:=zdQ hs hg
  have hcs:x.cs=[.int .i64 x.op,.int .i64 x.jt,.int .i64 x.jf,.int .u32 (x.k:Int)]:=rfl
  have hbr:=zc3 (G:=G) x
  simp[IV,hcs] at hbr
  by_cases hmid:a≤i∧i<a+n
  ·have hTe:T (i+1)=T i:=by rw[hT,hT,zgV (by omega),zgV (by omega)]
   have hE:((i:Int)<((a+n:Nat):Int))=True:=eq_true (by omega)
   have hG:((a:Int)≤(i:Int))=True:=eq_true (by omega)
   simp(disch:=omega)[ltT,FL,aa,hE,hG,hTe,hlt,zag,zaa,zac,g0,g1,zdr,-Int.natCast_add]
  -- where the instruction is now
  obtain⟨now,hnow⟩:∃ now,now=if i<a then i else i-n+w.length:=⟨_,rfl⟩
  have hput:(T i)[now]?=some x∧(T i).set now (putI a (a+n) (n-w.length) i x)=T (i+1):=by
   rw[hT,hT]
   by_cases hia:i<a
   ·rw[hnow,if_pos hia]; exact zvy hia hg
   ·rw[hnow,if_neg hia]
    have h1:=ztx (w:=w) (show a+n≤i by omega) hg hbd (by omega)
    refine⟨h1,?_⟩
    have hadj:∀ d,adjN a (a+n) (n-w.length) i d=d:=fun d=>by rw[adjN,if_neg (by omega)]
    have hpx:putI a (a+n) (n-w.length) i x=x:=by
     unfold putI
     simp only[hadj]
     obtain⟨op,jt,jf,k⟩:=x
     by_cases h5:op=5
     ·simp[h5]
     ·cases hbx:isBr op
      ·simp[h5]
      ·obtain⟨b1,b2,b3,b4⟩:=hbo hbx
       simp only at b1 b2 b3 b4
       simp[h5]; omega
    rw[hpx]
    rw[zgV (i:=i+1) (by omega),←zgV (i:=i) (f:=f) (w:=w) (a:=a) (n:=n) (by omega)]
    obtain⟨h2,h3⟩:=List.getElem?_eq_some_iff.1 h1
    rw[←h3]; exact List.set_getElem_self h2
  obtain⟨hTx,hTs⟩:=hput
  have hnl:now<f.length-n+w.length:=by rw[←hTl i]; exact(List.getElem?_eq_some_iff.1 hTx).1
  -- where a jump leads now
  have hno:∀ k:Nat,za9 x i (i+1+k)=true→i+1+k≤a∨a+n≤i+1+k:=by
   intro k hj
   by_cases h:a<i+1+k∧i+1+k<a+n
   ·have:=zsd hfn hg h.1 h.2
    rw[hj] at this; cases this
   ·omega
  have hto:∀ k:Nat,za9 x i (i+1+k)=true→((if i+1+k≤a then i+1+k else i+1+k+w.length-n:Nat):Int)-now-1=((adjN a (a+n) (n-w.length) i k:Nat):Int):=by
   intro k hj
   have hno:=hno k hj
   unfold adjN
   by_cases hia:i<a
   ·rw[if_pos hia] at hnow
    by_cases h1:i+1+k≤a
    ·rw[if_pos h1,if_neg (by omega)]; omega
    ·rw[if_neg h1,if_pos (by omega)]; omega
   ·rw[if_neg hia] at hnow
    rw[if_neg (by omega),if_neg (by omega)]; omega
  have hadl:∀ d:Nat,adjN a (a+n) (n-w.length) i d≤d:=fun d=>by unfold adjN; split<;>omega
  have n1:subI .i64 (i:Int) (n:Int)=(i:Int)-n:=by rw[zaK]<;>omega
  have n2:addI .i64 ((i:Int)-n) (w.length:Int)=(i:Int)-n+w.length:=by rw[zav]<;>omega
  have a1:addI .i64 (i:Int) 1=((i+1:Nat):Int):=zag (by omega)
  have hE:a≤i→((i:Int)<((a+n:Nat):Int))=False:=fun h=>eq_false (by omega)
  by_cases hia:i<a
  ·rw[if_pos hia] at hnow
   obtain rfl:i=now:=hnow.symm
   have hG:((a:Int)≤(i:Int))=False:=eq_false (by omega)
   have hG2:((a:Int)<(i:Int))=False:=eq_false (by omega)
   have hG3:(a≤i)=False:=eq_false (by omega)
   have hG4:(a<i)=False:=eq_false (by omega)
   simp(disch:=omega)[ltT,FL,hG,hG2,hG3,hG4,hgg,hfx,hcs,zaa,zac,g0,g1,zdr,-Int.natCast_add]
   have hroom:∀ m:Nat,m<4→(i*4+m+1≤(f.length-n+w.length)*4)=True:=fun m hm=>eq_true (by omega)
   have r1:=hroom 1 (by omega)
   have r2:=hroom 2 (by omega)
   have r3:=hroom 3 (by omega)
   by_cases h5:x.op=5
   ·have b5:(x.op==5)=true:=by simp[h5]
    have hnb:isBr x.op=false:=by rw[h5]; decide
    have hc:=zda x.k hkk
    have hjb:za9 x i (i+1+x.k)=true:=by simp[za9,h5]
    have hpl:=zeG (G:=G) (i+1+x.k) a n w.length (by omega) (by have:=hno x.k hjb; omega) (by omega) (by omega)
    have hj:=hto x.k hjb
    generalize(if i+1+x.k≤a then i+1+x.k else i+1+x.k+w.length-n)=pl at hpl hj
    have a2:addI .i64 ((i+1:Nat):Int) (x.k:Int)=((i+1+x.k:Nat):Int):=addN (by omega)
    have hkl:=hadl x.k
    have s1:subI .i64 (pl:Int) (i:Int)=(pl:Int)-i:=by rw[zaK]<;>omega
    have s2:subI .i64 ((pl:Int)-i) 1=((adjN a (a+n) (n-w.length) i x.k:Nat):Int):=by rw[zaK]<;>omega
    have hc2:zaP .u32 ((adjN a (a+n) (n-w.length) i x.k:Nat):Int)=((adjN a (a+n) (n-w.length) i x.k:Nat):Int):=by unfold zaP; exact zaT (by omega)
    have hst:=zg7 (T i) i 3 x (putI a (a+n) (n-w.length) i x) (.int .u32 ((adjN a (a+n) (n-w.length) i x.k:Nat):Int)) hTx (by omega) (by simp[putI,h5,In4.cs])
    rw[hTs] at hst
    rw[hnb] at hbr
    simp(disch:=omega)[b5,hc,a1,a2,-Int.natCast_add]
    refine zab hpl ?_
    simp(disch:=omega)[s1,s2,hc2,ltT,zdv,hTl,hst,r3,hlt,zag,zaa,zac,g0,g1,zdr,-Int.natCast_add]
    refine zab hbr ?_
    simp(disch:=omega)[hlt,zag,zaa,zac,g0,g1,zdr,-Int.natCast_add]
   have b5:(x.op==5)=false:=beqF h5
   simp[b5]
   refine zab hbr ?_
   cases hbx:isBr x.op with
   | false =>
    have hpx:putI a (a+n) (n-w.length) i x=x:=by simp[putI,h5,hbx]
    have hTe:T (i+1)=T i:=by
     rw[←hTs,hpx]
     obtain⟨h2,h3⟩:=List.getElem?_eq_some_iff.1 hTx
     rw[←h3]; exact List.set_getElem_self h2
    simp(disch:=omega)[hTe,hlt,zag,zaa,zac,g0,g1,zdr,-Int.natCast_add]
   | true =>
    obtain⟨b1,b2,b3,b4⟩:=hbo hbx
    have j1:((x.jt.toNat:Nat):Int)=x.jt:=by omega
    have j2:((x.jf.toNat:Nat):Int)=x.jf:=by omega
    have hjb:za9 x i (i+1+x.jt.toNat)=true:=by simp[za9,h5,hbx]
    have hjb2:za9 x i (i+1+x.jf.toNat)=true:=by simp[za9,h5,hbx]
    have hpl:=zeG (G:=G) (i+1+x.jt.toNat) a n w.length (by omega) (by have:=hno _ hjb; omega) (by omega) (by omega)
    have hpl2:=zeG (G:=G) (i+1+x.jf.toNat) a n w.length (by omega) (by have:=hno _ hjb2; omega) (by omega) (by omega)
    have hj:=hto _ hjb
    have hj2:=hto _ hjb2
    generalize(if i+1+x.jt.toNat≤a then i+1+x.jt.toNat else i+1+x.jt.toNat+w.length-n)=pl at hpl hj
    generalize(if i+1+x.jf.toNat≤a then i+1+x.jf.toNat else i+1+x.jf.toNat+w.length-n)=pl2 at hpl2 hj2
    have hkl:=hadl x.jt.toNat
    have hkl2:=hadl x.jf.toNat
    have a2:addI .i64 ((i+1:Nat):Int) x.jt=((i+1+x.jt.toNat:Nat):Int):=by rw[zav]<;>omega
    have a3:addI .i64 ((i+1:Nat):Int) x.jf=((i+1+x.jf.toNat:Nat):Int):=by rw[zav]<;>omega
    have s1:subI .i64 (pl:Int) (i:Int)=(pl:Int)-i:=by rw[zaK]<;>omega
    have s2:subI .i64 ((pl:Int)-i) 1=((adjN a (a+n) (n-w.length) i x.jt.toNat:Nat):Int):=by rw[zaK]<;>omega
    have s3:subI .i64 (pl2:Int) (i:Int)=(pl2:Int)-i:=by rw[zaK]<;>omega
    have s4:subI .i64 ((pl2:Int)-i) 1=((adjN a (a+n) (n-w.length) i x.jf.toNat:Nat):Int):=by rw[zaK]<;>omega
    obtain⟨y,hy⟩:∃ y:In4,y={ x with jt:=(adjN a (a+n) (n-w.length) i x.jt.toNat:Nat) }:=⟨_,rfl⟩
    have hst:=zg7 (T i) i 1 x y (.int .i64 ((adjN a (a+n) (n-w.length) i x.jt.toNat:Nat):Int)) hTx (by omega) (by simp[hy,In4.cs])
    have hTy:((T i).set i y)[i]?=some y:=List.getElem?_set_self (by rw[hTl]; exact hnl)
    have hst2:=zg7 ((T i).set i y) i 2 y (putI a (a+n) (n-w.length) i x) (.int .i64 ((adjN a (a+n) (n-w.length) i x.jf.toNat:Nat):Int)) hTy (by omega) (by simp[hy,putI,h5,hbx,In4.cs])
    rw[List.set_set,hTs] at hst2
    simp(disch:=omega)[a1,a2,-Int.natCast_add]
    refine zab hpl ?_
    simp(disch:=omega)[s1,s2,ltT,zdv,hTl,hst,r1,a1,a3,zaa,zac,g0,g1,zdr,-Int.natCast_add]
    refine zab hpl2 ?_
    simp(disch:=omega)[s3,s4,ltT,zdv,hTl,hst2,r2,hlt,zag,zaa,zac,g0,g1,zdr,-Int.natCast_add]
  ·have hG:((a:Int)≤(i:Int))=True:=eq_true (by omega)
   have hG2:((a:Int)<(i:Int))=True:=eq_true (by omega)
   have hE:=hE (by omega)
   have n2:addI .i64 ((i:Int)-n) (w.length:Int)=(now:Int):=by rw[n2,hnow,if_neg hia]; omega
   simp(disch:=omega)[ltT,FL,aa,hE,hG,hG2,hgg,hfx,hcs,n1,n2,zaa,zac,g0,g1,zdr,-Int.natCast_add]
   have hroom:∀ m:Nat,m<4→(now*4+m+1≤(f.length-n+w.length)*4)=True:=fun m hm=>eq_true (by omega)
   have r1:=hroom 1 (by omega)
   have r2:=hroom 2 (by omega)
   have r3:=hroom 3 (by omega)
   by_cases h5:x.op=5
   ·have b5:(x.op==5)=true:=by simp[h5]
    have hnb:isBr x.op=false:=by rw[h5]; decide
    have hc:=zda x.k hkk
    have hjb:za9 x i (i+1+x.k)=true:=by simp[za9,h5]
    have hpl:=zeG (G:=G) (i+1+x.k) a n w.length (by omega) (by have:=hno x.k hjb; omega) (by omega) (by omega)
    have hj:=hto x.k hjb
    generalize(if i+1+x.k≤a then i+1+x.k else i+1+x.k+w.length-n)=pl at hpl hj
    have a2:addI .i64 ((i+1:Nat):Int) (x.k:Int)=((i+1+x.k:Nat):Int):=addN (by omega)
    have hkl:=hadl x.k
    have s1:subI .i64 (pl:Int) (now:Int)=(pl:Int)-now:=by rw[zaK]<;>omega
    have s2:subI .i64 ((pl:Int)-now) 1=((adjN a (a+n) (n-w.length) i x.k:Nat):Int):=by rw[zaK]<;>omega
    have hc2:zaP .u32 ((adjN a (a+n) (n-w.length) i x.k:Nat):Int)=((adjN a (a+n) (n-w.length) i x.k:Nat):Int):=by unfold zaP; exact zaT (by omega)
    have hst:=zg7 (T i) now 3 x (putI a (a+n) (n-w.length) i x) (.int .u32 ((adjN a (a+n) (n-w.length) i x.k:Nat):Int)) hTx (by omega) (by simp[putI,h5,In4.cs])
    rw[hTs] at hst
    rw[hnb] at hbr
    simp(disch:=omega)[b5,hc,a1,a2,-Int.natCast_add]
    refine zab hpl ?_
    simp(disch:=omega)[s1,s2,hc2,ltT,zdv,hTl,hst,r3,hlt,zag,zaa,zac,g0,g1,zdr,-Int.natCast_add]
    refine zab hbr ?_
    simp(disch:=omega)[hlt,zag,zaa,zac,g0,g1,zdr,-Int.natCast_add]
   have b5:(x.op==5)=false:=beqF h5
   simp[b5]
   refine zab hbr ?_
   cases hbx:isBr x.op with
   | false =>
    have hpx:putI a (a+n) (n-w.length) i x=x:=by simp[putI,h5,hbx]
    have hTe:T (i+1)=T i:=by
     rw[←hTs,hpx]
     obtain⟨h2,h3⟩:=List.getElem?_eq_some_iff.1 hTx
     rw[←h3]; exact List.set_getElem_self h2
    simp(disch:=omega)[hTe,hlt,zag,zaa,zac,g0,g1,zdr,-Int.natCast_add]
   | true =>
    obtain⟨b1,b2,b3,b4⟩:=hbo hbx
    have j1:((x.jt.toNat:Nat):Int)=x.jt:=by omega
    have j2:((x.jf.toNat:Nat):Int)=x.jf:=by omega
    have hjb:za9 x i (i+1+x.jt.toNat)=true:=by simp[za9,h5,hbx]
    have hjb2:za9 x i (i+1+x.jf.toNat)=true:=by simp[za9,h5,hbx]
    have hpl:=zeG (G:=G) (i+1+x.jt.toNat) a n w.length (by omega) (by have:=hno _ hjb; omega) (by omega) (by omega)
    have hpl2:=zeG (G:=G) (i+1+x.jf.toNat) a n w.length (by omega) (by have:=hno _ hjb2; omega) (by omega) (by omega)
    have hj:=hto _ hjb
    have hj2:=hto _ hjb2
    generalize(if i+1+x.jt.toNat≤a then i+1+x.jt.toNat else i+1+x.jt.toNat+w.length-n)=pl at hpl hj
    generalize(if i+1+x.jf.toNat≤a then i+1+x.jf.toNat else i+1+x.jf.toNat+w.length-n)=pl2 at hpl2 hj2
    have hkl:=hadl x.jt.toNat
    have hkl2:=hadl x.jf.toNat
    have a2:addI .i64 ((i+1:Nat):Int) x.jt=((i+1+x.jt.toNat:Nat):Int):=by rw[zav]<;>omega
    have a3:addI .i64 ((i+1:Nat):Int) x.jf=((i+1+x.jf.toNat:Nat):Int):=by rw[zav]<;>omega
    have s1:subI .i64 (pl:Int) (now:Int)=(pl:Int)-now:=by rw[zaK]<;>omega
    have s2:subI .i64 ((pl:Int)-now) 1=((adjN a (a+n) (n-w.length) i x.jt.toNat:Nat):Int):=by rw[zaK]<;>omega
    have s3:subI .i64 (pl2:Int) (now:Int)=(pl2:Int)-now:=by rw[zaK]<;>omega
    have s4:subI .i64 ((pl2:Int)-now) 1=((adjN a (a+n) (n-w.length) i x.jf.toNat:Nat):Int):=by rw[zaK]<;>omega
    obtain⟨y,hy⟩:∃ y:In4,y={ x with jt:=(adjN a (a+n) (n-w.length) i x.jt.toNat:Nat) }:=⟨_,rfl⟩
    have hst:=zg7 (T i) now 1 x y (.int .i64 ((adjN a (a+n) (n-w.length) i x.jt.toNat:Nat):Int)) hTx (by omega) (by simp[hy,In4.cs])
    have hTy:((T i).set now y)[now]?=some y:=List.getElem?_set_self (by rw[hTl]; exact hnl)
    have hst2:=zg7 ((T i).set now y) now 2 y (putI a (a+n) (n-w.length) i x) (.int .i64 ((adjN a (a+n) (n-w.length) i x.jf.toNat:Nat):Int)) hTy (by omega) (by simp[hy,putI,h5,hbx,In4.cs])
    rw[List.set_set,hTs] at hst2
    simp(disch:=omega)[a1,a2,-Int.natCast_add]
    refine zab hpl ?_
    simp(disch:=omega)[s1,s2,ltT,zdv,hTl,hst,r1,a1,a3,zaa,zac,g0,g1,zdr,-Int.natCast_add]
    refine zab hpl2 ?_
    simp(disch:=omega)[s3,s4,ltT,zdv,hTl,hst2,r2,hlt,zag,zaa,zac,g0,g1,zdr,-Int.natCast_add]
 ·have hne:i=f.length:=by omega
  subst hne
  have hTe:T f.length=putL f a n w:=by rw[hT,zgV (by omega)]
  have hch:=zm3 (putL f a n w)
  rw[ziP hbd] at hch
  simp[hTe,FL,zdv,zp4,ziP hbd,hch]
end Go.Ev
/- Simplified code of Go functions, by scode.py. -/
namespace Go.Ev
def zd6:SFn:=⟨47,rS [mC 2 (.c (.vs [] .full))] (rM 1 [mM 7 0,lN 8 7,oS 9 (.mksl 0 1 ([.bool false]) (.t 8)),mM 3 9] (kS [0,3] (rS [mM 10 3,oS 11 (.iaddr 1 (.t 10) (kI 0)),oN (.store 1 (.t 11) kT)] (.seq (rS [mC 4 (kI 0)] (.block 0 (.loop [0,3,4] (.seq (rS [mM 12 4,mM 13 0,lN 14 13,bT 15 .lss 12 14] (kS [0,3,4,15] (cX 15 0))) (kS [0,3,4] (.seq (.block 1 (rS [mM 18 0,mM 19 4,pC 20 189 [.t 18,.t 19],mM 5 20] (kS [0,3,4,5] (rS [mC 6 (kI 0)] (.block 2 (.loop [0,3,4,5,6] (.seq (rS [mM 21 6,mM 22 5,lN 23 22,bT 24 .lss 21 23] (kS [0,3,4,5,6,24] (cX 24 2))) (kS [0,3,4,5,6] (.seq (.block 3 (rZ [mM 27 3,mM 28 5,mM 29 6,iA 30 1 28 29,lE 31 30,mM 32 3,mM 33 5,mM 34 6,iA 35 1 33 34,lE 36 35,iA 37 1 32 36,lE 38 37,mM 39 38,oF 40 39 (.mv (.t 3)),oF 41 39 (.mv (.t 4)),oF 42 39 (.iaddr 1 (.t 40) (.t 41)),oF 43 39 (.load 1 false true (.t 42)),pK 44 39 kT (.t 43),iA 45 1 27 31,sT 1 45 44])) (kS [0,3,4,5,6] (rZ [mM 25 6,bX 26 .add 25 (kI 1),mM 6 26]))))))))))) (kS [0,3,4] (rZ [mM 16 4,bX 17 .add 16 (kI 1),mM 4 17])))))))) (kS [3] (rS [mM 46 3,mM 2 46] .ret)))))),[.tmp 2]⟩
def zcK:SFn:=⟨23,rS [mC 6 (kI 0)] (rS [mC 7 (kI 0)] (.seq (rS [mM 9 1,bX 10 .add 9 (kI 1),mM 8 10] (.block 0 (.loop [0,2,7,8] (.seq (rS [mM 11 8,mM 12 2,bT 13 .lss 11 12] (cX 13 0)) (kS [0,2,7,8] (.seq (.block 1 (rS [mM 16 0,mM 17 8,iA 18 1 16 17,lD 19 18] (kS [0,2,7,8,19] (cD 19 (rZ [mM 20 7,bX 21 .add 20 (kI 1),mM 7 21]) .skip)))) (kS [0,2,7,8] (rZ [mM 14 8,bX 15 .add 14 (kI 1),mM 8 15])))))))) (kS [7] (rS [mM 22 7,mM 6 22] .ret)))),[.tmp 6]⟩
def zdb:SFn:=⟨74,rS [mC 2 (.c (.vs [] .full))] (rS [mM 7 0,pC 8 389 [.t 7],mM 3 8] (rS [mC 4 (.c (.vs [] .full))] (.seq (rS [mC 5 (kI 0)] (.seq (.give 4 none) (.block 0 (.loop [0,3,4,5] (.seq (rS [mM 9 5,mM 10 0,lN 11 10,bT 12 .lss 9 11] (kS [0,3,4,5,12] (cX 12 0))) (kS [0,3,4,5] (.seq (.block 1 (rM 1 [mM 15 0,mM 16 5,iA 17 4 15 16,oS 18 (.load 4 true false (.t 17)),oS 6 (.alloc 0 zI),sT 4 6 18] (kS [0,3,4,5,6] (.seq (rS [mM 19 3,mM 20 5,iA 21 1 19 20,lD 22 21,mM 23 22,oT 24 23 (.faddr 0 (.t 6)),oT 25 23 (.load 1 false false (.t 24)),oT 26 23 (.bin .eql (.t 25) (kI 5)),pK 27 23 (.t 26) kF] (kS [0,3,4,5,6,27] (cD 27 (rZ [mM 28 3,mM 29 5,mM 30 5,bX 31 .add 30 (kI 1),fA 32 3 6,lD 33 32,oS 34 (.conv .i64 (.t 33)),bT 35 .add 31 34,pC 36 388 [.t 28,.t 29,.t 35],oS 37 (.conv .u32 (.t 36)),fA 38 3 6,sT 1 38 37]) .skip))) (kS [0,3,4,5,6] (.seq (rS [mM 39 3,mM 40 5,iA 41 1 39 40,lD 42 41,mM 43 42,oT 44 43 (.load 4 true false (.t 6)),oT 45 43 (.pcall 180 [.t 44]),pK 46 43 (.t 45) kF] (kS [0,3,4,5,6,46] (cD 46 (rS [mM 47 3,mM 48 5,mM 49 5,bX 50 .add 49 (kI 1),fA 51 1 6,lD 52 51,bT 53 .add 50 52,pC 54 388 [.t 47,.t 48,.t 53],fA 55 1 6,sT 1 55 54] (kS [0,3,4,5,6] (rZ [mM 56 3,mM 57 5,mM 58 5,bX 59 .add 58 (kI 1),fA 60 2 6,lD 61 60,bT 62 .add 59 61,pC 63 388 [.t 56,.t 57,.t 62],fA 64 2 6,sT 1 64 63]))) .skip))) (kS [0,3,4,5,6] (rS [mM 65 3,mM 66 5,iA 67 1 65 66,lD 68 67] (kS [0,3,4,5,6,68] (cD 68 (.region 1 [mM 69 4,oS 70 (.load 4 true false (.t 6)),oS 71 (.bslice 1 zI [(0,.t 70)]),
 oS 72 (.app 0 4 32 (.t 69) (.t 71)),mM 4 72]) .skip)))))))))) (kS [0,3,4,5] (rZ [mM 13 5,bX 14 .add 13 (kI 1),mM 5 14]))))))))) (kS [4] (rS [mM 73 4,mM 2 73] .ret))))),[.tmp 2]⟩
def zdw:SFn:=⟨33,rM 2 [oS 2 (.box 0 (.t 0)),oS 3 (.box 1 (.t 1)),mC 4 kF] (rS [fA 5 0 2,lE 6 5,fA 7 0 3,lE 8 7,pC 9 201 [.t 6,.t 8],mM 10 9,oT 11 10 (.faddr 1 (.t 2)),oT 12 10 (.load 1 false true (.t 11)),oT 13 10 (.pcall 374 [.t 12]),oT 14 10 (.faddr 1 (.t 3)),oT 15 10 (.load 1 false true (.t 14)),oT 16 10 (.pcall 374 [.t 15]),oT 17 10 (.pcall 372 [.t 13,.t 16]),pK 18 10 (.t 17) kF,mM 19 18,oT 20 19 (.faddr 2 (.t 2)),oT 21 19 (.load 1 false true (.t 20)),oT 22 19 (.faddr 2 (.t 3)),oT 23 19 (.load 1 false true (.t 22)),oT 24 19 (.bin .eql (.t 21) (.t 23)),pK 25 19 (.t 24) kF,mM 26 25,oT 27 26 (.faddr 3 (.t 2)),oT 28 26 (.load 1 false true (.t 27)),oT 29 26 (.faddr 3 (.t 3)),oT 30 26 (.load 1 false true (.t 29)),oT 31 26 (.beq false (.t 28) (.t 30)),pK 32 26 (.t 31) kF,mM 4 32] .ret),[.tmp 4]⟩
def zdx:SFn:=⟨127,rM 2 [oS 5 (.box 0 (.t 2)),oS 6 (.alloc 1 ([.vs [] .full,.vs [] .full,.int .i64 0,.bool false])),mC 7 kF] (rS [mM 26 0,fA 27 2 5,lD 28 27,pC 29 376 [.t 28,.c (.int .i64 32)],pC 30 214 [.t 26,.t 29],mM 8 30] (kS [0,1,5,6,8] (.seq (rS [mC 9 (kI 0)] (.block 0 (.loop [0,1,5,6,8,9] (.seq (rS [mM 31 9,mM 32 8,lN 33 32,bT 34 .lss 31 33] (kS [0,1,5,6,8,9,34] (cX 34 0))) (kS [0,1,5,6,8,9] (.seq (.block 1 (rS [mM 37 8,mM 38 9,iA 39 1 37 38,lE 40 39,oS 41 (.iaddr 1 (.t 40) (kI 0)),lE 42 41,mM 43 8,mM 44 9,iA 45 1 43 44,lE 46 45,oS 47 (.iaddr 1 (.t 46) (kI 1)),lE 48 47,mM 10 42,mM 11 48] (kS [0,1,5,6,8,9,10,11] (rS [mM 49 0,mM 50 10,mM 51 10,mM 52 11,bT 53 .add 51 52,oS 54 (.slc 4 (.t 49) (some (.t 50)) (some (.t 53)) none),mM 12 54] (kS [0,1,5,6,8,9,10,11,12] (rS [mM 56 0,mM 57 10,mM 58 11,bT 59 .add 57 58,bX 60 .sub 59 (kI 1),pC 61 172 [.t 56,.t 60],mM 55 61,eX 62 0 55,eX 63 1 55,mM 13 62,mM 14 63] (kS [0,1,5,6,8,9,10,11,12,13] (rS [mM 65 1,mM 66 12,mM 67 13,pC 68 359 [.t 65,.t 66,.t 67],mM 64 68,eX 69 0 64,eX 70 1 64,mM 15 69,mM 16 70] (kS [0,1,5,6,8,9,10,11,12,13,15,16] (.seq (rS [mM 71 16] (cD 71 (rM 1 [mM 73 12,mM 74 15,mM 75 13,pC 76 312 [.t 73,.t 74,.t 75],mM 72 76,eX 77 0 72,eX 78 1 72,oS 17 (.alloc 0 ([.int .i64 0]++rep 20 (.int .u32 0)++rep 7 (.int .u64 0))),sT 28 17 77,mM 18 78] (kS [0,1,5,6,8,9,10,11,12,13,15,17,18] (rZ [mM 79 18,bX 80 .eql 79 (kI 0),mM 81 80,oT 82 81 (.faddr 0 (.t 17)),oT 83 81 (.load 1 false false (.t 82)),oT 84 81 (.bin .eql (.t 83) (kI 0)),
 pK 85 81 (.t 84) kF,mM 16 85]))) .skip)) (kS [0,1,5,6,8,9,10,11,12,13,15,16] (.seq (rS [mM 86 16,nT 87 86] (cD 87 (rS [mM 89 12,mM 90 13,fA 91 1 5,lD 92 91,pC 93 376 [.t 92,.c (.int .i64 1000)],pC 94 333 [.t 89,.t 90,.t 93],mM 88 94,eX 95 0 88,eX 96 1 88,eX 97 2 88,mM 19 95,mM 20 96,mM 21 97] (kS [0,1,5,6,8,9,10,11,12,13,19,20] (rS [mM 98 19,mM 15 98] (rZ [mM 99 20,mM 16 99])))) .skip)) (kS [0,1,5,6,8,9,10,11,12,13,15,16] (rS [mM 100 16] (cD 100 (rS [mM 102 0,mM 103 10,mM 104 11,mM 105 15,pC 106 213 [.t 102,.t 103,.t 104,.t 105],mM 101 106,eX 107 0 101,eX 108 1 101,mM 22 107,mM 23 108] (kS [1,6,12,13,15,22] (rS [mM 110 1,mM 111 12,mM 112 15,mM 113 13,oS 114 (.build ([.vs [] .full,.vs [] .full,.int .u32 0]) [(0,1,.t 111),(1,1,.t 112),(2,1,.t 113)]),pC 115 357 [.t 110,.t 114],mM 109 115,eX 116 0 109,eX 117 1 109,mM 24 116,mM 25 117] (kS [1,6,22,24,25] (.seq (rS [mM 118 25,bX 119 .neq 118 (kI 0)] (cD 119 (rZ [mM 120 1,mM 24 120]) .skip)) (kS [6,22,24] (rS [mM 121 22,mM 122 24,oS 123 (.build ([.vs [] .full,.vs [] .full,.int .i64 0,.bool false]) [(0,1,.t 121),(1,1,.t 122),(2,1,.c (.int .i64 1))]),sT 4 6 123,mC 7 kT] .ret))))))) .skip))))))))))))))) (kS [0,1,5,6,8,9] (rZ [mM 35 9,bX 36 .add 35 (kI 1),mM 9 36])))))))) (kS [0,1,6] (rS [mM 124 0,mM 125 1,oS 126 (.build ([.vs [] .full,.vs [] .full,.int .i64 0,.bool false]) [(0,1,.t 124),(1,1,.t 125),(3,1,.c (.bool true))]),sT 4 6 126,mC 7 kF] .ret))))),[.cell 6 4 true,.tmp 7]⟩
def zcL:SFn:=⟨87,rM 1 [oS 5 (.box 0 (.t 2)),mC 6 kF] (.seq (rS [mM 13 0,mM 14 1,oS 15 (.load 3 true false (.t 5)),pC 16 378 [.t 13,.t 14,.t 15]] (kS [0,1,5,16] (cD 16 (rS [pC 17 379 [],mM 6 17] .ret) .skip))) (kS [0,1,5] (rM 1 [mM 19 0,mM 20 1,oS 21 (.load 3 true false (.t 5)),pC 22 365 [.t 19,.t 20,.t 21],mM 18 22,eX 23 0 18,eX 24 1 18,oS 7 (.alloc 0 ([.vs [] .full,.vs [] .full,.int .i64 0,.bool false])),sT 4 7 23,mM 8 24] (kS [0,1,5,7,8] (.seq (rS [mM 25 0,pC 26 188 [.t 25],nT 27 26] (cD 27 (rS [oS 28 (.load 4 true false (.t 7)),oS 29 (.build ([.vs [] .full,.vs [] .full,.int .i64 0,.bool false]) []),pC 30 384 [.t 28,.t 29],mM 31 30,oT 32 31 (.mv (.t 8)),oT 33 31 (.bin .eql (.t 32) (kI 1)),pK 34 31 (.t 33) kF,mM 35 34,oT 36 35 (.pcall 379 []),pK 37 35 (.t 36) kF,mM 6 37] .ret) .skip)) (kS [0,1,5,7,8] (rM 1 [mM 38 0,pC 39 387 [.t 38],mM 40 1,pC 41 380 [.t 40],oS 42 (.build ([.vs [] .full,.vs [] .full,.int .i64 0,.bool false]) [(0,1,.t 39),(1,1,.t 41)]),oS 9 (.alloc 0 ([.vs [] .full,.vs [] .full,.int .i64 0,.bool false])),sT 4 9 42] (kS [5,7,8,9] (.seq (rS [mC 10 (kI 0)] (.block 0 (.loop [5,7,8,9,10] (.seq (rS [mM 43 10,fA 44 0 5,lD 45 44,bT 46 .lss 43 45,mM 47 46,oT 48 47 (.faddr 3 (.t 9)),oT 49 47 (.load 1 false false (.t 48)),oT 50 47 (.un .not (.t 49)),pK 51 47 (.t 50) kF] (kS [5,7,8,9,10,51] (cX 51 0))) (kS [5,7,8,9,10] (.seq (.block 1 (rM 1 [fA 55 0 9,lD 56 55,fA 57 1 9,lD 58 57,oS 59 (.load 3 true false (.t 5)),pC 60 385 [.t 56,.t 58,.t 59],mM 54 60,eX 61 0 54,eX 62 1 54,
 oS 11 (.alloc 0 ([.vs [] .full,.vs [] .full,.int .i64 0,.bool false])),sT 4 11 61,mM 12 62] (kS [5,7,8,9,10,11,12] (rS [fA 63 0 11,lD 64 63,fA 65 0 9,sT 1 65 64] (kS [5,7,8,9,10,11,12] (rS [fA 66 1 11,lD 67 66,fA 68 1 9,sT 1 68 67] (kS [5,7,8,9,10,12] (rS [mM 69 12,nT 70 69,fA 71 3 9,sT 1 71 70] (kS [5,7,8,9,10,12] (rS [mM 72 12] (cD 72 (rZ [fA 73 2 9,lD 74 73,bX 75 .add 74 (kI 1),fA 76 2 9,sT 1 76 75]) .skip))))))))))) (kS [5,7,8,9,10] (rZ [mM 52 10,bX 53 .add 52 (kI 1),mM 10 53])))))))) (kS [7,8,9] (rS [oS 77 (.load 4 true false (.t 7)),oS 78 (.load 4 true false (.t 9)),pC 79 384 [.t 77,.t 78],mM 80 79,oT 81 80 (.mv (.t 8)),oT 82 80 (.bin .eql (.t 81) (kI 0)),pK 83 80 (.t 82) kF,mM 84 83,oT 85 84 (.pcall 379 []),pK 86 84 (.t 85) kF,mM 6 86] .ret))))))))))),[.tmp 6]⟩
class HasR23 (G:Tbl):Prop where
  h_hurdleref23_Met:G 389=some zd6
  h_hurdleref23_between:G 388=some zcK
  h_hurdleref23_Prune:G 387=some zdb
class HasL24s (G:Tbl):Prop where
  h_hurdlelaw24_same:G 384=some zdw
  h_hurdlelaw24_step:G 385=some zdx
class HasL24r (G:Tbl):Prop where
  h_hurdlelaw24_OptRows:G 391=some zcL
end Go.Ev
/- Layer 24: a round as the document has it; the law OptRounds. -/
namespace Go.Ev
open Go Go.RowKit
variable {G:Tbl}
theorem ziI{t:List TR}{r:TR}(he:(zaD t r).2≠0):(zaD t r).1=t:=by
 unfold zaD at he ⊢
 split
 ·split
  ·rfl
  ·split
   ·rfl
   ·rename_i g1 g2 g3
    rw[if_pos g1,if_neg g2,if_neg g3] at he
    exact absurd rfl he
 ·rfl
theorem zvz[HasWd G][HasNeg G][HasIns G][HasCheck G][HasData G][HasWith G][HasStep G][HasWRight G][HasWinRun G][HasWinAsg G][HasWinState G][HasWinOf G][HasAffApart G][HasAffine G][hBA:HasBitsA G][HasSymNew G][HasSym G][HasSymEval G][HasSymApart G][HasDecDf G][HasDec G][HasSrcN G][HasSrcL G][HasSrcC G][HasSrcF G][HasTells G][HasLive G][HasSpl G][HasEnc G][HasTbl G][HasOpt G][HasR2 G][HasR5 G][HasR5o G][HasR17 G][HasR22 G][HasR24c G][HasL24s G]
  (f:List In4) (t:List TR) (rnds tries most:Int) (hs:zao f=true) (hk:∀ x∈f,x.k<4294967296) (hf1:f.length≤1000) (ht:zmg t) :
  FP G 385 [FL f,TF t,.agg [.int .i64 rnds,.int .i64 tries,.int .i64 most]] (rndV f t (zbM f t (zaX tries 0 1000) (zaX most 0 32))):=by
 refine zak HasL24s.h_hurdlelaw24_step (Nat.le_of_ble_eq_true rfl) ?_
 have hL4:=zcg hs
 have hfm:f.length≤maxLen:=Nat.le_trans hL4 (by decide)
 have hc1:=zm2 (G:=G) most 32 (by decide)
 have hc2:=zm2 (G:=G) tries 1000 (by decide)
 obtain⟨mo,hmo⟩:∃ mo,mo=zaX most 0 32:=⟨_,rfl⟩
 obtain⟨tr,htr⟩:∃ tr,tr=zaX tries 0 1000:=⟨_,rfl⟩
 rw[←hmo] at hc1
 rw[←htr] at hc2
 rw[←hmo,←htr]
 have hpc:=zq6 (G:=G) f mo hf1 hk
 obtain⟨L,hL⟩:∃ L,L=rows f mo f.length:=⟨_,rfl⟩
 have hLl:L.length≤200000:=by
  have:=zg8 f mo f.length
  rw[hL]; omega
 rw[←hL] at hpc
 have hR:zbM f t tr mo=L.findSome? (tryP f t tr):=by rw[zbM,hL]
 simp only[FL] at hpc
 simp[FL,TF]
 refine zab hc1 ?_
 simp
 refine zab hpc ?_
 simp
 refine W_up L.length (fun i=>[(0,FL f),(1,TF t),(5,.ptr 0 0),(6,.ptr 1 0),(8,.vs (zcG .full L) .no),(9,.int .i64 i)])
  (fun _=>[some (.cells [.int .i64 rnds,.int .i64 tries,.int .i64 most]),some (.cells [.vs [] .full,.vs [] .full,.int .i64 0,.bool false])]) (fun i=>∀ j<i,∀ p,L[j]?=some p→tryP f t tr p=none) ?_ ?_
 ·simp[zaa,zac,FL,TF]
 intro i hi hP
 by_cases hlt:i<L.length
 ·obtain⟨p,hfp⟩:∃ p,p=L[i]:=⟨_,rfl⟩
  have hg:L[i]?=some p:=by rw[hfp]; exact List.getElem?_eq_getElem hlt
  have hpm:p∈rows f mo f.length:=by rw[←hL]; exact List.mem_of_getElem? hg
  obtain⟨hpa,hc,h2,h32⟩:=ziO hpm
  have hc':=hc
  simp only[cnd,Bool.and_eq_true] at hc'
  have hfz:=hc'.2
  simp only[cnd,zcj,zbc,inB,Bool.and_eq_true,decide_eq_true_eq] at hc
  obtain⟨⟨_,_⟩,_,⟨i1,i2,i3,i4⟩,hfn⟩:=hc
  have hfn:zbQ f p.1 p.2=true:=by simpa using hfn
  obtain⟨a,n⟩:=p
  simp only at hpa h2 h32 hfn i1 i2 i3 i4 hfz
  have hbd:a+n≤f.length:=by omega
  obtain⟨x,hx⟩:∃ x,f[a+n-1]?=some x:=⟨_,List.getElem?_eq_getElem (by omega)⟩
  have hbh:=znA (G:=G) f (a+n-1) x hx hk hs
  have hpl:∀ x∈(f.drop a).take n,zaJ x=true:=by
   simp only[zbQ,Bool.and_eq_true] at hfn
   exact zks hfn.1
  have hpx:zaJ x=true:=hpl x (by
   refine List.mem_of_getElem? (i:=n-1) ?_
   rw[List.getElem?_take,if_pos (by omega),List.getElem?_drop,show a+(n-1)=a+n-1 by omega]
   exact hx)
  have hox:offs x=[0]:=by
   obtain⟨h5,hbr,h6,h22⟩:=zni hpx
   simp[offs,zax,h5,hbr,h6,h22]
  rw[hox,zsf,show a+n-1+1=a+n by omega] at hbh
  obtain⟨live,hlv⟩:∃ live,live=zkQ f a n:=⟨_,rfl⟩
  have hlv32:live<4294967296:=by rw[hlv]; exact Nat.lt_of_lt_of_le (zbi _ 18) (by decide)
  rw[show zat (nd (f.drop (a+n))) 18=live from hlv.symm] at hbh
  obtain⟨P,hPe⟩:∃ P,P=zb9 f a n:=⟨_,rfl⟩
  have hPl:P.length=n:=by rw[hPe,zb9,List.length_take,List.length_drop]; omega
  have hPk:∀ y∈P,y.k<4294967296:=by rw[hPe]; exact zio hk a n
  have hPw:winB P=true:=by
   rw[hPe,zb9]
   simp only[zbQ,Bool.and_eq_true] at hfn
   exact hfn.1
  have hPm:P.length≤maxLen:=Nat.le_trans (show P.length≤32 by omega) (by decide)
  have hfi:=zpx (G:=G) t P live ht.1 ht.2 hlv32
  have hsf:=zqJ (G:=G) P live tr hPm hPk hPw hlv32
  have e1:addI .i64 (a:Int) (n:Int)=((a+n:Nat):Int):=addN (by omega)
  have e2:subI .i64 ((a+n:Nat):Int) 1=((a+n-1:Nat):Int):=by rw[zaK]<;>omega
  have hslice:((IL f).drop a).take n=IL P:=by rw[zg0,zg1,hPe,zb9]
  have hslice3:((IL f).drop a).take (a+n-a)=IL P:=by rw[show a+n-a=n by omega]; exact hslice
  have hre:L[i]=(a,n):=hfp.symm
  have c1:((a:Int)≤((a+n:Nat):Int))=True:=eq_true (by omega)
  have c2:(((a+n:Nat):Int)≤(f.length:Int))=True:=eq_true (by omega)
  have htp:tryP f t tr (a,n)=(zbl P t live tr).map fun x=>(putL f a n x,(zaD t ⟨P,x,live⟩).1):=by
   rw[tryP,←hPe,←hlv]
  have hnone:zbl P t live tr=none→∀ j<i+1,∀ p,L[j]?=some p→tryP f t tr p=none:=fun hsr j hj p hp=>by
   rcases Nat.lt_succ_iff_lt_or_eq.1 hj with h|rfl
   ·exact hP j h p hp
   ·rw[hg] at hp; cases hp
    rw[htp,hsr]; rfl
  have hsome:∀ y,zbl P t live tr=some y→zbM f t tr mo=some (putL f a n y,(zaD t ⟨P,y,live⟩).1)∧winB y=true∧zhE f a n y=true∧y.length≤32∧(∀ z∈y,z.k<4294967296):=fun y hsr=>by
   obtain⟨w1,w2,w3,w4⟩:=zlC hPk hPw (fun r hr=>(ht.2 r hr).2.2.2.1) hsr
   have hy32:=(zcz w1).1
   refine⟨?_,w1,by simp only[zhE,hfz,w1,Bool.true_and,decide_eq_true_eq]; omega,hy32,w4⟩
   rw[hR]
   have hsplit:L=L.take i++(a,n)::L.drop (i+1):=by
    have:=List.drop_eq_getElem_cons hlt
    rw[hre] at this
    rw[←this,List.take_append_drop]
   exact List.findSome?_eq_some_iff.2 ⟨L.take i,(a,n),L.drop (i+1),hsplit,by rw[htp,hsr]; rfl,fun p hp=>by
    obtain⟨j,hj⟩:=List.getElem?_of_mem hp
    rw[List.getElem?_take] at hj
    split at hj
    ·rename_i hji; exact hP j hji p hj
    ·cases hj⟩
  simp only[FL,TF] at hbh hfi hsf
  simp(disch:=omega)[ltT,leTn,hg,hre,FL,TF,e1,e2,c1,c2,hslice3,zaa,-Int.natCast_add]
  refine zab hbh ?_
  simp(disch:=omega)[hslice,zaa]
  refine zab hfi ?_
  cases hfd:zek t P live with
  | none =>
   have hR2:zbl P t live tr=findR P live tr:=by rw[zbl,hfd]
   simp[fndV,zaa]
   try simp[zaa]
   refine zab hc2 ?_
   simp
   refine zab hsf ?_
   cases hfr:findR P live tr with
   | none =>
    rw[hfr] at hR2
    have hP2:=hnone hR2
    simp(disch:=omega)[hlt,zag,zaa,zac,FL,TF,-Int.natCast_add]
    exact fun j hj p q hp=>hP2 j hj (p,q) hp
   | some y =>
    rw[hfr] at hR2
    obtain⟨hRq,w1,hokp,hy32,w4⟩:=hsome y hR2
    have hput:=zmo (G:=G) f y a n hfm (by omega) hk w4 hokp
    obtain⟨r,hr⟩:∃ r:TR,r=⟨P,y,live⟩:=⟨_,rfl⟩
    have hrk:r.ok:=by
     rw[hr]
     exact⟨hPm,Nat.le_trans hy32 (by decide),hPk,w4,hlv32⟩
    have hln:=zhV (G:=G) t r ht.1 ht.2 hrk
    have hrv:TV r=.agg [.vs (IL P) .no,.vs (IL y) .no,.int .u32 live]:=by rw[hr]; rfl
    rw[hrv] at hln
    rw[hRq,←hr]
    simp only[FL,TF] at hput hln
    try simp[zaa]
    refine zab hput ?_
    try simp[zaa]
    refine zab hln ?_
    by_cases he:(zaD t r).2=0
    ·have he':((zaD t r).2==0)=true:=by simp[he]
     simp[he',he,rndV,ResC,FL,TF,zaa]
    ·have he':((zaD t r).2 !=0)=true:=by simp[he]
     have hsame:(zaD t r).1=t:=ziI he
     simp[he',he,hsame,rndV,ResC,FL,TF,zaa]
  | some x =>
   obtain⟨r,hr,h1,h2',h3⟩:=zps hfd
   have hxk:=(ht.2 r hr).2.2.2.1
   have hx32:=(zd3 h3).2
   rw[h2'] at hxk hx32
   have hdc:=zjz (G:=G) P x live hPm (Nat.le_trans hx32 (by decide)) hPk hxk hlv32
   have hxw:winB x=true:=by
    simp only[TR.may,Bool.and_eq_true] at h3
    rw[←h2']; exact h3.1.1.2
   simp only[FL,hPw,hxw,Bool.and_self,if_true] at hdc
   simp[fndV,zaa]
   refine zab hdc ?_
   obtain⟨A,hA⟩:∃ A,A=ansC 0 none:=⟨_,rfl⟩
   have lA:A.length=28:=by rw[hA]; rfl
   obtain⟨cc,B,hcc,hB,kB,lB,B1⟩:∃(cc:Int) (B:List V),(decR P x live).1=cc∧B=ansC (decR P x live).1 (decR P x live).2∧(∀ n,clL n B=B)∧B.length=28∧B.take 1=[.int .i64 (decR P x live).1] :=
    ⟨_,_,rfl,rfl,fun n=>zin _ _ n,zlg P x live,zmt _ _⟩
   have hAz:V.int .i64 0::(zad .u32 (zae 20)++zad .u64 (zae 7))=A:=by rw[hA]; rfl
   have hBt:B.take 28=B:=List.take_of_length_le (by omega)
   have hBd:B.drop 28=[]:=List.drop_eq_nil_of_le (by omega)
   have hAd:A.drop 28=[]:=List.drop_eq_nil_of_le (by omega)
   rw[←hB]
   rw[hcc] at B1
   simp[hAz,hAd,hBt,hBd,lA,lB,B1,kB,zaa,zac]
   by_cases h0:cc=0
   ·have hR2:zbl P t live tr=some x:=by rw[zbl,hfd]; simp only[]; rw[if_pos ⟨hxw,by rw[hcc,h0]⟩]
    have h0':(cc==0)=true:=by simp[h0]
    simp[h0',h0]
    obtain⟨hRq,w1,hokp,hy32,w4⟩:=hsome x hR2
    have hput:=zmo (G:=G) f x a n hfm (by omega) hk w4 hokp
    obtain⟨r,hr⟩:∃ r:TR,r=⟨P,x,live⟩:=⟨_,rfl⟩
    have hrk:r.ok:=by
     rw[hr]
     exact⟨hPm,Nat.le_trans hy32 (by decide),hPk,w4,hlv32⟩
    have hln:=zhV (G:=G) t r ht.1 ht.2 hrk
    have hrv:TV r=.agg [.vs (IL P) .no,.vs (IL x) .no,.int .u32 live]:=by rw[hr]; rfl
    rw[hrv] at hln
    rw[hRq,←hr]
    simp only[FL,TF] at hput hln
    try simp[zaa]
    refine zab hput ?_
    try simp[zaa]
    refine zab hln ?_
    by_cases he:(zaD t r).2=0
    ·have he':((zaD t r).2==0)=true:=by simp[he]
     simp[he',he,rndV,ResC,FL,TF,zaa]
    ·have he':((zaD t r).2 !=0)=true:=by simp[he]
     have hsame:(zaD t r).1=t:=ziI he
     simp[he',he,hsame,rndV,ResC,FL,TF,zaa]
   ·have hR2:zbl P t live tr=findR P live tr:=by rw[zbl,hfd]; simp only[]; rw[if_neg (by rintro⟨_,h⟩; rw[hcc] at h; exact h0 h)]
    have h0':(cc==0)=false:=beqF h0
    simp[h0',h0]
    try simp[zaa]
    refine zab hc2 ?_
    simp
    refine zab hsf ?_
    cases hfr:findR P live tr with
    | none =>
     rw[hfr] at hR2
     have hP2:=hnone hR2
     simp(disch:=omega)[hlt,zag,zaa,zac,FL,TF,-Int.natCast_add]
     exact fun j hj p q hp=>hP2 j hj (p,q) hp
    | some y =>
     rw[hfr] at hR2
     obtain⟨hRq,w1,hokp,hy32,w4⟩:=hsome y hR2
     have hput:=zmo (G:=G) f y a n hfm (by omega) hk w4 hokp
     obtain⟨r,hr⟩:∃ r:TR,r=⟨P,y,live⟩:=⟨_,rfl⟩
     have hrk:r.ok:=by
      rw[hr]
      exact⟨hPm,Nat.le_trans hy32 (by decide),hPk,w4,hlv32⟩
     have hln:=zhV (G:=G) t r ht.1 ht.2 hrk
     have hrv:TV r=.agg [.vs (IL P) .no,.vs (IL y) .no,.int .u32 live]:=by rw[hr]; rfl
     rw[hrv] at hln
     rw[hRq,←hr]
     simp only[FL,TF] at hput hln
     try simp[zaa]
     refine zab hput ?_
     try simp[zaa]
     refine zab hln ?_
     by_cases he:(zaD t r).2=0
     ·have he':((zaD t r).2==0)=true:=by simp[he]
      simp[he',he,rndV,ResC,FL,TF,zaa]
     ·have he':((zaD t r).2 !=0)=true:=by simp[he]
      have hsame:(zaD t r).1=t:=ziI he
      simp[he',he,hsame,rndV,ResC,FL,TF,zaa]
 ·have hne:i=L.length:=by omega
  subst hne
  have hnone:zbM f t tr mo=none:=by
   rw[hR,List.findSome?_eq_none_iff]
   intro p hp
   obtain⟨j,hj⟩:=List.getElem?_of_mem hp
   exact hP j (List.getElem?_eq_some_iff.1 hj).1 p hj
  rw[hnone]
  simp[rndV,ResC,FL,TF]
end Go.Ev
/- Layer 24: the law OptRounds. -/
namespace Go.Ev
open Go Go.RowKit
variable {G:Tbl}
theorem zm4[HasR3 G][HasR21s G][HasL21 G][HasL24s G](f:List In4)(t:List TR)(n:Int)(d:Bool)(hf:f.length≤1000000)(hl:t.length≤1000000)(hk:∀ r∈t,r.fr.length≤1000000∧r.to.length≤1000000) :
  FP G 384 [.agg [FL f,TF t,.int .i64 n,.bool d],.agg [FL f,TF t,.int .i64 n,.bool d]] (.bool true):=by
 refine zak HasL24s.h_hurdlelaw24_same (Nat.le_of_ble_eq_true rfl) ?_
 have h1:=zjx (G:=G) f f hf
 have h2:=zp1 (G:=G) t hl
 have h3:=zrL (G:=G) t hl hk
 simp only[FL,TF,decide_true] at h1 h2 h3
 simp[FL,TF]
 refine zab h1 ?_
 simp
 refine zab h2 ?_
 simp
 refine zab h2 ?_
 simp
 refine zab h3 ?_
 simp
end Go.Ev
/- What is come to, as the document has it: hurdleref23.Met. -/
namespace Go.Ev
open Go Go.RowKit
variable {G:Tbl}
def preB(f:List In4)(m:List Bool)(n i:Nat):Bool:=(List.range n).any fun j=>m.getD j false&&(offs (f.getD j RET)).any fun o=>decide (j+1+o=i)
def stM(f:List In4)(m:List Bool)(n:Nat)(l:List Int):List Bool:=(List.range f.length).map fun i=>m.getD i false&&(decide (i=0)||preB f m n i||(m.getD n false&&l.any fun j=>decide (j=(i:Int))))
theorem zdW(f:List In4)(m:List Bool)(n:Nat)(l:List Int):(stM f m n l).length=f.length:=by simp[stM]
theorem zeH{f:List In4}{m:List Bool}{n i:Nat}{l:List Int}(h:i<f.length):(stM f m n l)[i]?=some (m.getD i false&&(decide (i=0)||preB f m n i||(m.getD n false&&l.any fun j=>decide (j=(i:Int))))):=by
 simp[stM,h]
theorem zrO(f:List In4)(m:List Bool)(n i:Nat):preB f m (n+1) i=(preB f m n i||(m.getD n false&&(offs (f.getD n RET)).any fun o=>decide (n+1+o=i))):=by
 simp[preB,List.range_succ,List.any_append]
theorem zjs{m:List Bool}{i:Nat}:m.getD i false=true↔m[i]?=some true:=by
 rw[List.getD]
 cases h:m[i]? with
 | none=>simp
 | some b=>simp
theorem pre_min{f:List In4}{m:List Bool}(hm:MinM f m){i n:Nat}(hn:i≤n)(h:m.getD i false=true):i=0∨preB f m n i=true:=by
 by_cases h0:i=0
 ·exact .inl h0
 ·obtain⟨j,x,o,h1,h2,h3,h4⟩:=hm i (zjs.1 h) (by omega)
  refine .inr (List.any_eq_true.2 ⟨j,List.mem_range.2 (by omega),?_⟩)
  rw[Bool.and_eq_true]
  refine⟨zjs.2 h2,List.any_eq_true.2 ⟨o,?_,by simpa using h4⟩⟩
  rw[List.getD,h1]; exact h3
theorem zty{f:List In4}{m:List Bool}(hl:m.length=f.length)(h0:m[0]?=some true)(hf:0<f.length):(List.replicate f.length false).set 0 true=stM f m 0 []:=by
 refine List.ext_getElem? fun i=>?_
 by_cases hi:i<f.length
 ·rw[zeH hi]
  by_cases h:i=0
  ·subst h; rw[List.getElem?_set_self (by simpa using hf),zjs.2 h0]; simp
  ·rw[List.getElem?_set_ne (by omega),List.getElem?_replicate_of_lt hi]; simp[h,preB]
 ·rw[List.getElem?_eq_none (by simp; omega),List.getElem?_eq_none (by rw[zdW]; omega)]
theorem zvA{f:List In4}{m:List Bool}(hl:m.length=f.length)(hm:MinM f m):stM f m f.length []=m:=by
 refine List.ext_getElem? fun i=>?_
 by_cases hi:i<f.length
 ·rw[zeH hi]
  have hg:m[i]?=some (m.getD i false):=by rw[List.getD,List.getElem?_eq_getElem (by omega)]; rfl
  rw[hg]
  cases hb:m.getD i false with
  | false=>rfl
  | true =>
   rcases pre_min hm (show i≤f.length by omega) hb with h|h<;>simp[h]
 ·rw[List.getElem?_eq_none (by rw[zdW]; omega),List.getElem?_eq_none (by omega)]
theorem zwS{f:List In4}{m:List Bool}{n:Nat}{x:In4}{t:Nat}(hm:MinM f m)(hn:n<f.length)(k:Nat):(stM f m n ((nxL x n t).take k))[n]?=some (m.getD n false):=by
 rw[zeH hn]
 have hno:((nxL x n t).take k).any (fun j=>decide (j=(n:Int)))=false:=by
  rw[List.any_eq_false]
  intro j hj
  have:=List.mem_of_mem_take hj
  simp only[nxL,List.mem_map] at this
  obtain⟨o,_,rfl⟩:=this
  simp; omega
 rw[hno]
 cases hb:m.getD n false with
 | false=>rfl
 | true =>
  rcases pre_min hm (Nat.le_refl n) hb with h|h<;>simp[h]
theorem zvB{f:List In4}{m:List Bool}{n k j:Nat}{l:List Int}{x:In4}(hc:clsB f m)(hx:f[n]?=some x)(hk:l[k]?=some (j:Int))(hj:j<f.length)(ho:∃ o∈offs x,n+1+o=j) :
  ∃ b,(stM f m n (l.take k))[j]?=some b∧(stM f m n (l.take k)).set j (b||m.getD n false)=stM f m n (l.take (k+1)):=by
 refine⟨_,zeH hj,?_⟩
 have ht:l.take (k+1)=l.take k++[(j:Int)]:=by rw[List.take_add_one,hk]; rfl
 refine List.ext_getElem? fun i=>?_
 by_cases hi:i<f.length
 ·rw[zeH hi,ht,List.any_append]
  by_cases e:i=j
  ·subst e
   rw[List.getElem?_set_self (by rw[zdW]; exact hi)]
   cases hb:m.getD n false with
   | false=>simp
   | true =>
    have hmi:m.getD i false=true:=by
     obtain⟨o,h1,h2⟩:=ho
     rw[zjs,←h2]
     exact zmP hc hx (zjs.1 hb) h1
    have hmi':m[i]?.getD false=true:=by simpa[List.getD] using hmi
    simp[hmi']
  ·rw[List.getElem?_set_ne (by omega),zeH hi]
   have h1:decide ((j:Int)=(i:Int))=false:=by simp; omega
   have h2:decide (j=i)=false:=by simp; omega
   simp[h1,h2]
 ·rw[List.getElem?_eq_none (by rw[List.length_set,zdW]; omega),List.getElem?_eq_none (by rw[zdW]; omega)]
theorem ztz{f:List In4}{m:List Bool}{n t:Nat}{x:In4}(hx:f[n]?=some x)(hb:x.brOk)(ho:∀ o∈offs x,o<t):stM f m n (nxL x n t)=stM f m (n+1) []:=by
 refine List.ext_getElem? fun i=>?_
 by_cases hi:i<f.length
 ·rw[zeH hi,zeH hi,zrO]
  have hg:f.getD n RET=x:=by rw[List.getD,hx]; rfl
  have e:=zxC hb (i:=n) ho fun o=>decide (n+1+o=i)
  have e2:(nxL x n t).any (fun j=>decide (j=(i:Int)))=(nxL x n t).any (fun j=>decide (n+1+(j.toNat-(n+1))=i)):=by
   rw[Bool.eq_iff_iff,List.any_eq_true,List.any_eq_true]
   constructor<;>rintro⟨j,hj,h⟩<;>refine⟨j,hj,?_⟩<;>simp only[nxL,List.mem_map] at hj<;>obtain⟨o,_,rfl⟩:=hj<;>simp only[decide_eq_true_eq] at h ⊢<;>omega
  rw[hg,e2,e]
  simp[Bool.or_assoc]
 ·rw[List.getElem?_eq_none (by rw[zdW]; omega),List.getElem?_eq_none (by rw[zdW]; omega)]
theorem zvC[HasR2 G][HasR5 G][HasR5n G][HasR23 G]{f:List In4}(hs:zao f=true)(hk:∀ x∈f,x.k<4294967296) :
  FP G 389 [FL f] (.vs (zaL (metR f)) .no):=by
 refine zak HasR23.h_hurdleref23_Met (Nat.le_of_ble_eq_true rfl) ?_
 obtain⟨hml,hcl,h00,hmin⟩:=ziB hs
 obtain⟨m,hm⟩:∃ m,m=metR f:=⟨_,rfl⟩
 rw[←hm] at hml hcl h00 hmin ⊢
 have hl4:=zcg hs
 have h0:0<f.length:=by
  have:=zlw hs
  cases f with
  | nil=>exact absurd rfl this
  | cons x f=>simp
 have hz:=zty hml h00 h0
 have hz2:=ziy (List.replicate f.length false) 0 true (by simpa using h0)
 rw[hz] at hz2
 obtain⟨T,hT⟩:∃ T:Nat→List Bool,∀ n,T n=stM f m n []:=⟨_,fun _=>rfl⟩
 have hTl:∀ n,(T n).length=f.length:=fun n=>by rw[hT,zdW]
 rw[←hT] at hz2
 have hz3:V.bool true::(cb (List.replicate f.length false)).tail=cb (T 0):=by simpa using hz2
 simp(disch:=omega)[FL,leTn,h0,hz3]
 refine W_up f.length (fun i=>[(0,FL f),(3,.rs 0 0 f.length 1),(4,.int .i64 i)]) (fun i=>[some (.cells (cb (T i)))]) (fun _=>True) ?_ ?_
 ·simp[zaa,zac,FL]
 intro i hi _
 by_cases hlt:i<f.length
 ·obtain⟨x,hx⟩:∃ x,f[i]?=some x:=⟨_,List.getElem?_eq_getElem hlt⟩
  have hxm:=List.mem_of_getElem? hx
  have hnx:=zvH (G:=G) f i x hx (by omega) (hk x hxm)
  have hb:=zdQ hs hx
  have hsl:=zuy hs hx
  obtain⟨L,hL⟩:∃ L,L=nxL x i (f.length-1-i):=⟨_,rfl⟩
  have hLl:=zp7 x i (f.length-1-i)
  rw[←hL] at hnx hLl
  obtain⟨S,hS⟩:∃ S:Nat→List Bool,∀ k,S k=stM f m i (L.take k):=⟨_,fun _=>rfl⟩
  have hS0:T i=S 0:=by rw[hS,hT,List.take_zero]
  have hSl:∀ k,(S k).length=f.length:=fun k=>by rw[hS,zdW]
  have hSe:S L.length=T (i+1):=by rw[hS,hT,List.take_length,hL,ztz hx hb hsl]
  simp only[FL] at hnx
  simp(disch:=omega)[ltT,FL,hlt,zaa,zac]
  refine zab hnx ?_
  simp[zaa,zac]
  refine W_up L.length (fun k=>[(0,FL f),(3,.rs 0 0 f.length 1),(4,.int .i64 i),(5,.vs (ints .i64 L) .no),(6,.int .i64 k)]) (fun k=>[some (.cells (cb (S k)))]) (fun _=>True) ?_ ?_
  ·simp[zaa,zac,FL,hS0]
  intro k hk' _
  by_cases hlk:k<L.length
  ·obtain⟨o,ho1,ho2⟩:=zxD (x:=x) (i:=i) (m:=f.length-1-i) (j:=k) (by rw[←hL]; exact hlk)
   rw[←hL] at ho1
   have hof:o∈offs x:=by
    have hmem:=List.mem_of_getElem? ho1
    rw[hL] at hmem
    simp only[nxL,List.mem_map,List.mem_filter,List.mem_range] at hmem
    obtain⟨o',⟨_,h2⟩,h3⟩:=hmem
    rw[zj6 hb,decide_eq_true_eq] at h2
    have:o'=o:=by omega
    rw[←this]; exact h2
   obtain⟨b,hb1,hb2⟩:=zvB (j:=i+1+o) hcl hx ho1 (by omega) ⟨o,hof,rfl⟩
   have hat:=zwS (x:=x) (t:=f.length-1-i) hmin hlt k
   rw[←hL] at hat
   rw[←hS] at hb1 hb2 hat
   rw[←hS] at hb2
   generalize m.getD i false=y at hb2 hat
   have hLg:L[k]=((i+1+o:Nat):Int):=by
    have:=List.getElem?_eq_getElem hlk
    rw[ho1] at this
    exact(Option.some.inj this).symm
   have r1:=zpb (S k) (i+1+o) b hb1
   have r2:=zpb (S k) i y hat
   have hst:=ziy (S k) (i+1+o) (b||y) (by rw[hSl]; omega)
   rw[hb2] at hst
   have l1:(((i+1+o:Nat):Int)<(f.length:Int))=True:=eq_true (by omega)
   cases b with
   | true =>
    simp only[Bool.true_or] at hst
    simp(disch:=omega)[ltT,leTn,hlk,hLg,l1,r1,hSl,hst,zag,zaa,zac,FL,-Int.natCast_add]
   | false =>
    simp only[Bool.false_or] at hst
    simp(disch:=omega)[ltT,leTn,hlk,hLg,l1,r1,r2,hSl,hst,hlt,zag,zaa,zac,FL,-Int.natCast_add]
  ·have hne:k=L.length:=by omega
   subst hne
   simp(disch:=omega)[hSe,hlt,zag,zaa,zac,FL,-Int.natCast_add]
 ·have hne:i=f.length:=by omega
  subst hne
  have hTe:T f.length=m:=by rw[hT,zvA hml hmin]
  have hc:=zhR m
  rw[hml] at hc
  simp[hTe,hml,hc,FL]
end Go.Ev
/- A filter without what is never come to, as the document has it: hurdleref23.Prune. -/
namespace Go.Ev
open Go Go.RowKit
variable {G:Tbl}
theorem zq1[HasR23 G]{m:List Bool}{i o:Nat}(hm:m.length≤4096)(ho:i+1+o≤m.length) :
  FP G 388 [.vs (zaL m) .no,.int .i64 i,.int .i64 ((i+1+o:Nat):Int)] (.int .i64 (cntB (m.drop (i+1)) o:Nat)):=by
 refine zak HasR23.h_hurdleref23_between (Nat.le_of_ble_eq_true rfl) ?_
 have hbl:(zaL m).length=m.length:=by simp[zaL]
 have a1:addI .i64 (i:Int) 1=((i+1:Nat):Int):=zag (by omega)
 obtain⟨C,hC⟩:∃ C:Nat→Nat,∀ j,C j=cntB (m.drop (i+1)) j:=⟨_,fun _=>rfl⟩
 have hC0:C 0=0:=by rw[hC,zcs]
 have hCl:∀ j,C j≤j:=fun j=>by rw[hC]; exact zeM _ _
 simp[a1,-Int.natCast_add]
 refine W_up o (fun j=>[(0,.vs (zaL m) .no),(2,.int .i64 ((i+1+o:Nat):Int)),(7,.int .i64 (C j:Nat)),(8,.int .i64 ((i+1+j:Nat):Int))]) (fun _=>[]) (fun _=>True) ?_ ?_
 ·simp[zaa,zac,hC0]
 intro j hj _
 by_cases hlt:j<o
 ·obtain⟨t,ht⟩:∃ t,t=m[i+1+j]'(by omega):=⟨_,rfl⟩
  have hg:m[i+1+j]?=some t:=by rw[List.getElem?_eq_getElem (by omega),ht]
  have hbe:(zaL m)[i+1+j]'(by omega)=[.bool t]:=by simp[zaL,ht]
  have hgd:(m.drop (i+1))[j]?=some t:=by rw[List.getElem?_drop]; exact hg
  have hc:=ziC hgd
  rw[←hC,←hC] at hc
  have hle:=hCl j
  have c1:(((i+1+j:Nat):Int)<((i+1+o:Nat):Int))=True:=eq_true (by omega)
  have c2:(((i+1+j:Nat):Int)<(m.length:Int))=True:=eq_true (by omega)
  have a2:addI .i64 ((i+1+j:Nat):Int) 1=((i+1+(j+1):Nat):Int):=by rw[zav]<;>omega
  have a3:addI .i64 (C j:Int) 1=((C j+1:Nat):Int):=zag (by omega)
  have hlt2:i+1+j<m.length:=by omega
  cases t with
  | true =>
   rw[if_pos rfl] at hc
   simp(disch:=omega)[ltT,c1,c2,hlt2,hbl,hbe,a2,a3,hc,hlt,zaa,zac,-Int.natCast_add]
  | false =>
   rw[if_neg (by simp),Nat.add_zero] at hc
   simp(disch:=omega)[ltT,c1,c2,hlt2,hbl,hbe,a2,hc,hlt,zaa,zac,-Int.natCast_add]
 ·have hne:j=o:=by omega
  subst hne
  simp[hC]
theorem zrP[HasR2 G][HasR5 G][HasR5n G][HasR23 G]{f:List In4}(hs:zao f=true)(hk:∀ x∈f,x.k<4294967296) :
  FP G 387 [FL f] (FL (prune f)):=by
 refine zak HasR23.h_hurdleref23_Prune (Nat.le_of_ble_eq_true rfl) ?_
 obtain⟨hml,hcl,h00,_⟩:=ziB hs
 have hf:=zcg hs
 have hmt:=zvC (G:=G) hs hk
 obtain⟨m,hm⟩:∃ m,m=metR f:=⟨_,rfl⟩
 have hpr:prune f=pruR f m:=by rw[prune,hm]
 rw[←hm] at hml hcl h00 hmt
 have hl:f.length=m.length:=hml.symm
 have hm4:m.length≤4096:=by omega
 have hbl:(zaL m).length=m.length:=by simp[zaL]
 obtain⟨T,hT⟩:∃ T:Nat→List In4,∀ j,T j=outP f m j:=⟨_,fun _=>rfl⟩
 have hT0:T 0=[]:=by rw[hT,outP,zcs,List.take_zero]
 have hTL:∀ j,(T j).length≤j:=fun j=>by rw[hT]; exact zpk f m j
 simp only[FL] at hmt
 simp[FL]
 refine zab hmt ?_
 simp
 refine W_up m.length (fun i=>[(0,FL f),(3,.vs (zaL m) .no),(4,.vs (IL (T i)) (.own 0)),(5,.int .i64 i)]) (fun i=>[some (.zone (T i).length)]) (fun _=>True) ?_ ?_
 ·simp[zaa,zac,FL,hT0]
 intro i hi _
 by_cases hlt:i<m.length
 ·obtain⟨t,ht⟩:∃ t,t=m[i]:=⟨_,rfl⟩
  have hg:m[i]?=some t:=by rw[List.getElem?_eq_getElem hlt,ht]
  have hbe:(zaL m)[i]'(by omega)=[.bool t]:=by simp[zaL,ht]
  obtain⟨x,hfx⟩:∃ x,x=f[i]'(by omega):=⟨_,rfl⟩
  have hgg:=zaY (f:=f) (i:=i) (by omega)
  rw[←hfx] at hgg
  have hfx:=hfx.symm
  have hgx:f[i]?=some x:=by rw[List.getElem?_eq_getElem (by omega),hfx]
  have hxm:x∈f:=hfx▸List.getElem_mem _
  have hkk:=hk x hxm
  have hbo:=zdQ hs hgx
  have ho:=fun o h=>zcw (o:=o) hs hgx h
  have hcs:x.cs=[.int .i64 x.op,.int .i64 x.jt,.int .i64 x.jf,.int .u32 (x.k:Int)]:=rfl
  have hbr:=zc3 (G:=G) x
  simp[IV,hcs] at hbr
  have hTl:=hTL i
  have a1:addI .i64 (i:Int) 1=((i+1:Nat):Int):=zag (by omega)
  cases t with
  | false =>
   have hTe:T (i+1)=T i:=by rw[hT,hT]; exact zqG hg
   simp(disch:=omega)[ltT,leTn,ltTn,hl,hbe,hgg,hfx,hcs,hTe,hlt,zag,zaa,zac,FL,-Int.natCast_add]
  | true =>
   have hTs:T (i+1)=T i++[prX (m.drop (i+1)) x]:=by rw[hT,hT]; exact zpi hl hgx hg
   have hTl2:(T (i+1)).length=(T i).length+1:=by rw[hTs]; simp
   have hsn:∀ y:In4,y=prX (m.drop (i+1)) x→IL (T i)++[y.cs]=IL (T (i+1)):=fun y hy=>by rw[hTs,hy]; exact zkX _ _
   have hbt:∀ o:Nat,i+1+o≤m.length→_:=fun o h=>zq1 (G:=G) hm4 h
   by_cases h5:x.op=5
   ·have b5:(x.op==5)=true:=by simp[h5]
    have h5e:zax (5:Int)=false:=by decide
    have hnb:isBr x.op=false:=by rw[h5]; decide
    have hc:=zda x.k hkk
    have hlk:i+1+x.k<m.length:=by
     have:=ho x.k (by simp[offs,h5,h5e])
     omega
    have hv:=hbt x.k (by omega)
    have hle:=zeM (m.drop (i+1)) x.k
    have a2:addI .i64 ((i+1:Nat):Int) (x.k:Int)=((i+1+x.k:Nat):Int):=addN (by omega)
    have hc2:zaP .u32 ((cntB (m.drop (i+1)) x.k:Nat):Int)=((cntB (m.drop (i+1)) x.k:Nat):Int):=by unfold zaP; exact zaT (by omega)
    have hap:=hsn ⟨x.op,x.jt,x.jf,cntB (m.drop (i+1)) x.k⟩ (by simp[prX,h5])
    simp only[In4.cs] at hap
    obtain⟨q,hq⟩:∃ q,q=cntB (m.drop (i+1)) x.k:=⟨_,rfl⟩
    rw[←hq] at hv hap hc2 hle
    have hbr2:=zc3 (G:=G) ⟨x.op,x.jt,x.jf,q⟩
    simp[IV,In4.cs,hnb] at hbr2
    simp(disch:=omega)[ltT,leTn,ltTn,hl,hbe,hgg,hfx,hcs,b5,hc,a1,a2,FL,-Int.natCast_add]
    refine zab hv ?_
    simp(disch:=omega)[ltT,hbe,hc2,zaa,zac,-Int.natCast_add]
    refine zab hbr2 ?_
    simp(disch:=omega)[ltT,hbe,zac,leTn,hap,hTl2,hlt,zag,zaa,FL,-Int.natCast_add]
   have b5:(x.op==5)=false:=beqF h5
   simp(disch:=omega)[ltT,leTn,ltTn,hl,hbe,hgg,hfx,hcs,b5,zaa,zac,FL,-Int.natCast_add]
   refine zab hbr ?_
   cases hbx:isBr x.op
   ·have hap:=hsn x (by simp[prX,h5,hbx])
    simp only[In4.cs] at hap
    simp(disch:=omega)[ltT,hbe,leTn,hap,hTl2,hlt,zag,zaa,zac,FL,-Int.natCast_add]
   ·obtain⟨b1,b2,b3,b4⟩:=hbo hbx
    have he':zax x.op=false:=zs6 hbx
    have hof:offs x=[x.jt.toNat,x.jf.toNat]:=by simp[offs,he',h5,hbx]
    have hl1:=ho x.jt.toNat (by rw[hof]; simp)
    have hl2:=ho x.jf.toNat (by rw[hof]; simp)
    have hv:=hbt x.jt.toNat (by omega)
    have hv2:=hbt x.jf.toNat (by omega)
    have a2:addI .i64 ((i+1:Nat):Int) x.jt=((i+1+x.jt.toNat:Nat):Int):=by rw[zav]<;>omega
    have a3:addI .i64 ((i+1:Nat):Int) x.jf=((i+1+x.jf.toNat:Nat):Int):=by rw[zav]<;>omega
    have hap:=hsn ⟨x.op,(cntB (m.drop (i+1)) x.jt.toNat:Nat),(cntB (m.drop (i+1)) x.jf.toNat:Nat),x.k⟩ (by simp[prX,h5,hbx])
    simp only[In4.cs] at hap
    obtain⟨q,hq⟩:∃ q,q=cntB (m.drop (i+1)) x.jt.toNat:=⟨_,rfl⟩
    obtain⟨q2,hq2⟩:∃ q,q=cntB (m.drop (i+1)) x.jf.toNat:=⟨_,rfl⟩
    rw[←hq] at hv hap
    rw[←hq2] at hv2 hap
    simp(disch:=omega)[a1,a2,-Int.natCast_add]
    refine zab hv ?_
    simp(disch:=omega)[a1,a3,zaa,zac,-Int.natCast_add]
    refine zab hv2 ?_
    simp(disch:=omega)[ltT,hbe,zac,leTn,hap,hTl2,hlt,zag,zaa,FL,-Int.natCast_add]
 ·have hne:i=m.length:=by omega
  subst hne
  have hTe:T m.length=prune f:=by rw[hT,←hl,zpj hl,hpr]
  simp[hTe,FL,hl]
end Go.Ev
/- Layer 24: the law OptRows. -/
namespace Go.Ev
open Go Go.RowKit
variable {G:Tbl}
theorem zm5{tries most:Int}:∀(n:Nat) {f:List In4} {t:List TR},zao f=true→(∀ y∈f,y.k<4294967296)→TblK t→tblB t=true →
  (zbg tries most n f t).1.1.length≤f.length∧TblK (zbg tries most n f t).1.2∧tblB (zbg tries most n f t).1.2=true
 | 0,f,t,hs,hk,ht,hb=>⟨Nat.le_refl _,ht,hb⟩
 | n+1,f,t,hs,hk,ht,hb=>by
  unfold zbg
  cases hr:zbM f t tries most with
  | none=>exact⟨Nat.le_refl _,ht,hb⟩
  | some q =>
   have k:=zlD hs hk ht hr
   obtain⟨a1,a2,a3⟩:=zm5 (tries:=tries) (most:=most) n k.sound k.k k.tk (k.tbl hb)
   exact⟨by have:=k.len; simp only; omega,a2,a3⟩
theorem zpF[HasIns G][HasCheck G][HasPru G][HasOpt G](f:List In4)(t:List TR)(a b c:Int)(hf:f.length≤maxLen)(hk:∀ x∈f,x.k<4294967296)(hs:zao f=false) :
  FP G 365 [FL f,TF t,.agg [.int .i64 a,.int .i64 b,.int .i64 c]] (.tup [.agg (ResC [] [] 0 false),.int .i64 1]):=by
 refine zak HasOpt.h_opt_Optimize (Nat.le_of_ble_eq_true rfl) ?_
 have hp:=zuG (G:=G) hs hk hf
 simp only[FL] at hp
 simp[FL,TF]
 refine zab hp ?_
 simp[ResC,FL,TF,IL,TL]
theorem zq2[HasWd G][HasNeg G][HasIns G][HasCheck G][HasData G][HasWith G][HasStep G][HasWRight G][HasWinRun G][HasWinAsg G][HasWinState G][HasWinOf G][HasAffApart G][HasAffine G][hBA:HasBitsA G][HasSymNew G][HasSym G][HasSymEval G][HasSymApart G][HasDecDf G][HasDec G][HasSrcN G][HasSrcL G][HasSrcC G][HasSrcF G][HasTells G][HasLive G][HasSpl G][HasEnc G][HasTbl G][HasOpt G][HasPru G]
  [HasR2 G][HasR5 G][HasR5n G][HasR5o G][HasR17 G][HasR22 G][HasR23 G][HasR24c G][HasR3 G][HasR3e G][HasR21 G][HasR21s G][HasL21 G][HasL24k G][HasL24g G][HasL24s G][HasL24r G]
  (hkn:FP G 379 [] (.bool true)) (f:List In4) (t:List TR) (a b c:Int) (hf:f.length≤maxLen) (hk:∀ x∈f,x.k<4294967296) (hl:t.length≤maxLen) (htk:∀ r∈t,r.ok) :
  FP G 391 [FL f,TF t,.agg [.int .i64 a,.int .i64 b,.int .i64 c]] (.bool true):=by
 refine zak HasL24r.h_hurdlelaw24_OptRows (Nat.le_of_ble_eq_true rfl) ?_
 have hgr:=zrB (G:=G) f t a b c hl (fun r hr=>⟨(htk r hr).1,(htk r hr).2.1⟩)
 have hso:=zm7 (G:=G) f hf hk
 simp only[FL,TF] at hgr hso
 simp[FL,TF]
 refine zab hgr ?_
 cases hg:zc9 f t a b c with
 | true =>
  simp
  refine zab hkn ?_
  simp
 | false =>
 obtain⟨l1,l2,l3⟩:=zs8 hg
 cases hs:zao f with
 | false =>
  rw[hs] at hso
  have hop:=zpF (G:=G) f t a b c hf hk hs
  have hsm:=zm4 (G:=G) [] [] 0 false (by simp) (by simp) (fun r hr=>by cases hr)
  simp only[FL,TF,ResC,IL,TL,List.map_nil] at hop hsm
  simp
  refine zab hop ?_
  simp[zaa]
  refine zab hso ?_
  simp
  refine zab hsm ?_
  simp
  refine zab hkn ?_
  simp
 | true =>
  rw[hs] at hso
  have ht:zmg t:=⟨by omega,htk⟩
  have ha8:a≤8:=by
   simp only[zc9,Bool.or_eq_false_iff,decide_eq_false_iff_not] at hg
   omega
  obtain⟨p1,p2,_,_⟩:=zph hs
  have p3:=zqH hk
  have g1:=znD t
  have g2:=zs7 (zwy htk)
  have hop:=zk9 (G:=G) f t a b c hs hk ht g2
  have hgd:=zrN (G:=G) t (by omega) htk (fun r hr=>by have:=l3 r hr; omega)
  have hpr:=zrP (G:=G) hs hk
  obtain⟨Q,hQ⟩:∃ Q,Q=optR f t a b c:=⟨_,rfl⟩
  obtain⟨tr,htr⟩:∃ tr,tr=zaX b 0 1000:=⟨_,rfl⟩
  obtain⟨mo,hmo⟩:∃ mo,mo=zaX c 0 32:=⟨_,rfl⟩
  obtain⟨R,hR⟩:∃ R:Nat,zaX a 0 1000=R:=⟨(zaX a 0 1000).toNat,by unfold zaX; omega⟩
  have hR1:R≤1000:=by unfold zaX at hR; omega
  have hRa:∀ i:Nat,i≤R→((i:Int)<a)=(i<R):=fun i hi=>propext (by unfold zaX at hR; omega)
  rw[←hQ] at hop
  rw[optR,←htr,←hmo,hR,Int.toNat_natCast] at hQ
  have hb:=zm5 (tries:=tr) (most:=mo) R p1 p3 g2 g1
  rw[←hQ] at hb
  have hsm:=zm4 (G:=G) Q.1.1 Q.1.2 Q.2.1 Q.2.2 (by omega) (zlz hb.2.2 hb.2.1).1 (fun r hr=>by
   have:=zd3 ((by
    have h:=hb.2.2
    simp only[tblB,Bool.and_eq_true] at h
    exact List.all_eq_true.1 h.1.1 r hr:r.may=true))
   omega)
  have hFl:(prune f).length≤60:=by omega
  clear hb
  generalize prune f=F at *
  generalize goodT t=T at *
  simp only[FL,TF,ResC] at hop hsm hgd hpr
  simp
  refine zab hop ?_
  simp[zaa]
  refine zab hso ?_
  simp[zaa]
  refine zab hpr ?_
  simp
  refine zab hgd ?_
  simp[zaa]
  obtain⟨H0,hH0⟩:∃ H0:List V,H0=[FL Q.1.1,TF Q.1.2,.int .i64 Q.2.1,.bool Q.2.2]:=⟨_,rfl⟩
  simp only[FL,TF] at hH0
  refine zfZ (S:=Nat×List In4×List TR×Bool) (fun s=>(if s.2.2.2 then 0 else R-s.1)+(if s.2.2.2 then 0 else 1)) (fun s=>[(5,.ptr 0 0),(7,.ptr 1 0),(8,.int .i64 0),(9,.ptr 2 0),(10,.int .i64 (if s.2.2.2 then s.1+1 else s.1:Nat))])
   (fun s=>[some (.cells [.int .i64 a,.int .i64 b,.int .i64 c]),some (.cells [FL Q.1.1,TF Q.1.2,.int .i64 Q.2.1,.bool Q.2.2]),some (.cells (ResC s.2.1 s.2.2.1 s.1 s.2.2.2))])
   (fun s=>(s.2.2.2=true→Q=((s.2.1,s.2.2.1),s.1,true))∧(s.2.2.2=false→s.1≤R∧(zbg tr mo (R-s.1) s.2.1 s.2.2.1).1=Q.1∧s.1+(zbg tr mo (R-s.1) s.2.1 s.2.2.1).2.1=Q.2.1∧(zbg tr mo (R-s.1) s.2.1 s.2.2.1).2.2=Q.2.2∧zao s.2.1=true∧(∀ x∈s.2.1,x.k<4294967296)∧s.2.1.length≤60∧TblK s.2.2.1∧tblB s.2.2.1=true)) (0,F,T,false) ?_ ?_
  ·simp[zaa,zac,ResC,FL,TF,hQ,p1,hFl,g2,g1]
   exact p3
  rintro⟨i,f',t',dn⟩ ⟨q0,q1⟩
  simp only at q0 q1 ⊢
  cases dn with
  | true =>
   have e:=q0 rfl
   rw[e] at hsm ⊢
   simp only at hsm
   by_cases hia:((i+1:Nat):Int)<a
   ·simp[hia,ResC,FL,TF,zaa,-Int.natCast_add]
    refine zab hsm ?_
    simp
    refine zab hkn ?_
    simp
   ·simp[hia,ResC,FL,TF,zaa,-Int.natCast_add]
    refine zab hsm ?_
    simp
    refine zab hkn ?_
    simp
  | false =>
   obtain⟨hi,r1,r2,r3,s1,s2,s5,s3,s4⟩:=q1 rfl
   have hst:=zvz (G:=G) f' t' a b c s1 s2 (by omega) (zlz s4 s3)
   rw[←htr,←hmo] at hst
   simp only[FL,TF] at hst
   by_cases hlt:i<R
   ·obtain⟨k,hk'⟩:∃ k,R-i=k+1:=⟨R-i-1,by omega⟩
    rw[hk',zbg] at r1 r2 r3
    have hlt':((i:Int)<a)=True:=by rw[hRa i hi]; exact eq_true hlt
    have a1:addI .i64 (i:Int) 1=((i+1:Nat):Int):=zag (by omega)
    simp[hlt',ResC,FL,TF,zaa]
    refine zab hst ?_
    cases hro:zbM f' t' tr mo with
    | none =>
     rw[hro] at r1 r2 r3
     simp only at r1 r2 r3
     simp[rndV,ResC,FL,TF,zaa,zac]
     refine⟨(i,f',t',true),?_,⟨fun _=>?_,fun h=>(by cases h)⟩,?_,?_⟩
     ·simp
     ·obtain⟨⟨x1,x2⟩,x3,x4⟩:=Q
      simp only at r1 r2 r3 ⊢
      rw[←r1,←r2,←r3]
      simp
     ·simp[a1,zaa,-Int.natCast_add]
     ·simp[zac]
    | some q =>
     rw[hro] at r1 r2 r3
     simp only at r1 r2 r3
     have kk:=zlD s1 s2 s3 hro
     have hRk:R-(i+1)=k:=by omega
     simp[rndV,ResC,FL,TF,zaa,zac]
     refine⟨(i+1,q.1,q.2,false),?_,⟨fun h=>(by cases h),fun _=>⟨by simp only; omega,by simp only[hRk]; exact r1,by simp only[hRk]; omega,by simp only[hRk]; exact r3,kk.sound,kk.k,by have:=kk.len; simp only; omega,kk.tk,kk.tbl s4⟩⟩,?_,?_⟩
     ·simp; omega
     ·simp[a1,zaa,-Int.natCast_add]
     ·simp[a1,zac,-Int.natCast_add]
   ·have hne:i=R:=by omega
    subst hne
    rw[Nat.sub_self,zbg] at r1 r2 r3
    simp only at r1 r2 r3
    have hlt':((i:Int)<a)=False:=by rw[hRa i hi]; exact eq_false hlt
    have e:Q=((f',t'),i,false):=by
     obtain⟨⟨x1,x2⟩,x3,x4⟩:=Q
     simp only at r1 r2 r3 ⊢
     rw[←r1,←r2,←r3]
     simp
    rw[e] at hsm ⊢
    simp only at hsm
    simp[hlt',ResC,FL,TF,zaa]
    refine zab hsm ?_
    simp
    refine zab hkn ?_
    simp
end Go.Ev
