/- What is needed at each place: live.nexts, live.At, live.Behind. -/
import Derived.Test.YtogjnjnabikdpaaGreatDoorCheckBW
import Derived.Test.YtogjnjnabikdpaaGreatDoorEvXW
import Derived.Test.YtogjnjnabikdpaaGreatDoorEvInsCW
import Derived.Test.YtogjnjnabikdpaaGreatDoorEvWinCW
import Derived.Test.YtogjnjnabikdpaaGreatDoorSymJW
set_option linter.unusedSimpArgs false
set_option linter.unusedVariables false
set_option maxHeartbeats 4000000
set_option maxRecDepth 10000
namespace Go.Ev
open Go Go.RowKit
variable {G:Tbl}
def offs(x:In4):List Nat:=if zay x.op then [] else if x.op=5 then [x.k] else if isBr x.op then [x.jt.toNat,x.jf.toNat] else [0]
def ndL(p:Nat):List In4→List Bool
 | []=>[]
 | x::f=>(zaR x p||((offs x).any (fun o=>(ndL p f).getD o false)&&!za6 x p))::ndL p f
def nd(f:List In4)(p:Nat):Bool:=(ndL p f).headD false
theorem zoW(p:Nat):∀(f:List In4) (i:Nat),ndL p (f.drop i)=(ndL p f).drop i
 | f,0=>rfl
 | [],i+1=>by simp[ndL]
 | x::f,i+1=>by simp only[List.drop_succ_cons,ndL]; exact zoW p f i
theorem zxh(p:Nat)(f:List In4)(o:Nat):(ndL p f).getD o false=nd (f.drop o) p:=by
 unfold nd
 rw[zoW,List.headD_eq_head?_getD,List.head?_drop]; rfl
theorem zmz(x:In4)(f:List In4)(p:Nat):nd (x::f) p=(zaR x p||((offs x).any (fun o=>nd (f.drop o) p)&&!za6 x p)):=by
 simp only[nd,ndL,List.headD_cons]
 congr 2
 congr 1
 funext o
 exact zxh p f o
def wd(f:List In4):Nat:=zas (nd f) 18
def zcV:List In4→List Nat
 | []=>[]
 | x::f=>wd (x::f)::zcV f
theorem ze2:∀ f:List In4,(zcV f).length=f.length
 | []=>rfl
 | x::f=>by simp[zcV,ze2 f]
theorem zjG:∀(f:List In4) (i:Nat),i<f.length→(zcV f)[i]?=some (wd (f.drop i))
 | x::f,0,_=>rfl
 | x::f,i+1,h=>by
  simp only[zcV,List.getElem?_cons_succ,List.drop_succ_cons]
  exact zjG f i (by simpa using h)
def bh(g:List In4)(os:List Nat)(p:Nat):Bool:=os.any fun o=>nd (g.drop o) p
theorem zqs(a b:Nat→Bool):∀ n,zas a n ||| zas b n=zas (fun p=>a p||b p) n:=by
 intro n
 refine Nat.eq_of_testBit_eq fun i=>?_
 rw[Nat.testBit_or,zbK,zbK,zbK]
 cases decide (i<n)<;>simp
theorem ziL:∀ n,zas (fun _=>false) n=0
 | 0=>rfl
 | n+1=>by simp[zas,ziL n]
theorem zqt(g:List In4)(os:List Nat)(o:Nat):zas (bh g os) 18 ||| wd (g.drop o)=zas (bh g (os++[o])) 18:=by
 rw[wd,zqs]
 congr 1
 funext p
 simp[bh]
theorem zv4(x:In4)(g:List In4):zas (fun p=>zaR x p||(bh g (offs x) p&&!za6 x p)) 18=wd (x::g):=by
 unfold wd
 congr 1
 funext p
 rw[zmz]; rfl
theorem zsR(a b:Nat→Bool)(n:Nat)(hn:n≤32):zj6 .u32 ((zas a n:Nat):Int) ((zas b n:Nat):Int)=((zas (fun p=>a p&&!b p) n:Nat):Int):=by
 have ha:zas a n<2^32:=Nat.lt_of_lt_of_le (zbk a n) (Nat.pow_le_pow_right (by decide) hn)
 have hb:zas b n<2^32:=Nat.lt_of_lt_of_le (zbk b n) (Nat.pow_le_pow_right (by decide) hn)
 unfold zj6
 rw[za0,za0]
 have:(BitVec.ofNat 32 (zas a n) &&& ~~~BitVec.ofNat 32 (zas b n)).toNat=zas (fun p=>a p&&!b p) n:=by
  refine Nat.eq_of_testBit_eq fun i=>?_
  rw[BitVec.testBit_toNat,BitVec.getLsbD_and,BitVec.getLsbD_not,BitVec.getLsbD_ofNat,BitVec.getLsbD_ofNat,zbK,zbK,zbK]
  by_cases hi:i<n
  ·have:i<32:=by omega
   simp[hi,this]
  ·simp[hi]
 show IntKind.u32.wrap _=_
 rw[show IntKind.u32.bits=32 from rfl,this]
 exact za9 (Nat.lt_of_lt_of_le (zbk _ n) (Nat.pow_le_pow_right (by decide) hn))
theorem zvh(f:List In4):wd f<2^32:=Nat.lt_of_lt_of_le (zbk _ 18) (by decide)
def zdG(x:In4)(i:Nat):List Int:=(offs x).map fun(o:Nat)=>((i+1+o:Nat):Int)
theorem zoX[HasIns G][HasLive G](x:In4)(i:Nat)(hx:x.k<4294967296)(hb:x.brOk)(hi:i≤5000):FP G 170 [IV x,.int .i64 i] (.vs (ints .i64 (zdG x i)) .no):=by
 refine zak HasLive.h_live_nexts (Nat.le_of_ble_eq_true rfl) ?_
 have he:=zic (G:=G) x
 have hbr:=zcc (G:=G) x
 have a1:addI .i64 (i:Int) 1=(i:Int)+1:=by rw[zaE]<;>omega
 simp[IV,In4.cs,a1] at he hbr ⊢
 refine zab he ?_
 cases h1:zay x.op
 ·simp
  by_cases h5:x.op=5
  ·have a2:addI .i64 ((i:Int)+1) (x.k:Int)=((i+1+x.k:Nat):Int):=by rw[zaE]<;>omega
   have hb5:(x.op==5)=true:=by simp[h5]
   simp[hb5,zfL x.k hx,a1,a2]
   simp[zdG,offs,h1,h5,ints,zay]
  ·have hb5:(x.op==5)=false:=beqF h5
   simp[hb5]
   refine zab hbr ?_
   cases h2:isBr x.op
   ·simp[zdG,offs,h1,h5,h2,ints,a1]
   ·obtain⟨b1,b2,b3,b4⟩:=hb h2
    have a3:addI .i64 ((i:Int)+1) x.jt=((i+1+x.jt.toNat:Nat):Int):=by rw[zaE]<;>omega
    have a4:addI .i64 ((i:Int)+1) x.jf=((i+1+x.jf.toNat:Nat):Int):=by rw[zaE]<;>omega
    simp[a1,a3,a4]
    simp[zdG,offs,h1,h5,h2,ints]
 ·simp[zdG,offs,h1,ints]
theorem zoY:∀{f:List In4} {i:Nat} {x:In4},zaL f=true→f[i]?=some x→oneB x (f.length-1-i)=true
 | y::f,0,x,h,hg=>by
  simp only[List.getElem?_cons_zero,Option.some.injEq] at hg
  subst hg
  simp only[zaL,Bool.and_eq_true] at h
  simpa using h.1
 | y::f,i+1,x,h,hg=>by
  simp only[zaL,Bool.and_eq_true] at h
  have:=zoY h.2 (by simpa using hg)
  rw[←this]
  congr 1
  simp only[List.length_cons]; omega
theorem zei{f:List In4}{i:Nat}{x:In4}(h:zap f=true)(hg:f[i]?=some x):oneB x (f.length-1-i)=true∧(zay x.op=false→i+1<f.length)∧f.length≤4096:=by
 simp only[zap,Bool.and_eq_true,decide_eq_true_eq] at h
 refine⟨zoY h.1.2 hg,fun he=>?_,h.1.1⟩
 obtain⟨hi,hx⟩:=List.getElem?_eq_some_iff.1 hg
 by_cases hl:i+1<f.length
 ·exact hl
 ·have:i=f.length-1:=by omega
  have h2:=h.2
  have:f.getLast?=some x:=by rw[List.getLast?_eq_getElem?,←this]; exact hg
  simp only[endB,this] at h2
  rw[h2] at he; cases he
theorem zcW{f:List In4}{i:Nat}{x:In4}(h:zap f=true)(hg:f[i]?=some x){o:Nat}(ho:o∈offs x):i+1+o<f.length:=by
 obtain⟨h1,h2,h3⟩:=zei h hg
 simp only[oneB,Bool.and_eq_true] at h1
 unfold offs at ho
 split at ho
 ·cases ho
 rename_i he
 have h2:=h2 (by simpa using he)
 split at ho
 ·rename_i h5
  simp only[List.mem_singleton] at ho
  subst ho
  have:=h1.1.2
  rw[if_pos h5,decide_eq_true_eq] at this
  omega
 split at ho
 ·rename_i hb
  have hbr:=zb3 h1.1.1.1 hb
  have:=h1.2
  rw[if_pos hb,decide_eq_true_eq] at this
  simp only[List.mem_cons,List.not_mem_nil,or_false] at ho
  rcases ho with rfl|rfl<;>omega
 ·simp only[List.mem_singleton] at ho
  omega
theorem zoZ(x:In4):(offs x).length≤2:=by unfold offs; split; simp; split; simp; split<;>simp
def zb2(f:List In4)(k:Nat):List Nat:=List.replicate k 0++zcV (f.drop k)
theorem zhY(f:List In4)(k:Nat)(h:k≤f.length):(zb2 f k).length=f.length:=by simp[zb2,ze2]; omega
theorem zpL(f:List In4)(k j:Nat)(h:k≤j)(hj:j<f.length):(zb2 f k)[j]?=some (wd (f.drop j)):=by
 rw[zb2,List.getElem?_append_right (by simpa using h)]
 rw[List.length_replicate,zjG _ _ (by simp; omega),List.drop_drop]
 congr 3; omega
theorem zpM(f:List In4)(k:Nat)(hk:k<f.length):(zb2 f (k+1)).set k (wd (f.drop k))=zb2 f k:=by
 unfold zb2
 rw[List.replicate_succ',List.append_assoc,List.set_append_right _ _ (by simp)]
 rw[List.drop_eq_getElem_cons hk]
 simp only[List.length_replicate,Nat.sub_self,List.singleton_append,List.set_cons_zero]
 rfl
theorem zAJ[HasIns G][HasCheck G][HasTells G][HasLive G](f:List In4)(hk:∀ x∈f,x.k<4294967296)(hs:zap f=true):FP G 171 [FL f] (.tup [.vs (nats .u32 (zcV f)) .no,.int .i64 0]):=by
 have hl:f.length≤4096:=by simp only[zap,Bool.and_eq_true,decide_eq_true_eq] at hs; exact hs.1.1
 have hm:maxLen=9223372036854775807:=by decide
 refine zak HasLive.h_live_At (Nat.le_of_ble_eq_true rfl) ?_
 have h1:=zgO (G:=G) f (by omega) hk
 simp
 refine zab h1 ?_
 have s1:subI .i64 (f.length:Int) 1=(f.length:Int)-1:=by rw[zct]<;>omega
 simp(disch:=omega)[hs,FL,s1,leTn]
 refine W_up f.length (fun i=>[(0,FL f),(4,.rs 0 0 f.length 1),(5,.int .i64 ((f.length:Int)-1-i))]) (fun i=>[some (.cells (zac .u32 (zb2 f (f.length-i))))]) (fun _=>True) ?_ ?_
 ·simp[zaa,zad,FL,zb2,zcV,zae]
 intro i hi _
 by_cases hlt:i<f.length
 ·have ht:∃ t,t=f.length-1-i:=⟨_,rfl⟩
  obtain⟨t,ht⟩:=ht
  have e1:(f.length:Int)-1-i=(t:Int):=by omega
  have e2:f.length-i=t+1:=by omega
  have e3:f.length-(i+1)=t:=by omega
  have htl:t<f.length:=by omega
  have hg:f[t]?=some f[t]:=List.getElem?_eq_getElem htl
  have hgg:=zbg htl
  have hxm:f[t]∈f:=List.getElem_mem htl
  have hdr:=List.drop_eq_getElem_cons htl
  generalize f[t]=x at hg hgg hxm hdr
  have hkk:=hk x hxm
  obtain⟨o1,_,_⟩:=zei hs hg
  simp only[oneB,Bool.and_eq_true] at o1
  have hn:=zoX (G:=G) x t hkk (zb3 o1.1.1.1) (by omega)
  have hu:=zvs (G:=G) x
  have hse:=zvt (G:=G) x
  have hcs:x.cs=[.int .i64 x.op,.int .i64 x.jt,.int .i64 x.jf,.int .u32 (x.k:Int)]:=rfl
  simp[IV,hcs] at hn hu hse
  simp(disch:=omega)[e1,e2,ltT,FL,hgg,hcs,leT]
  refine zab hn ?_
  simp
  refine W_up (offs x).length (fun j=>[(0,FL f),(4,.rs 0 0 f.length 1),(5,.int .i64 t),(6,.int .u32 (zas (bh (f.drop (t+1)) ((offs x).take j)) 18:Nat)),(27,.vs (ints .i64 (zdG x t)) .no),(28,.int .i64 (offs x).length),(29,.int .i64 j)])
   (fun _=>[some (.cells (zac .u32 (zb2 f (t+1))))]) (fun _=>True) ?_ ?_
  ·have hb0:zas (bh (f.drop (t+1)) []) 18=0:=ziL 18
   simp[zaa,zad,FL,hb0,zdG]
  intro j hj _
  have hol:=zoZ x
  by_cases hjl:j<(offs x).length
  ·have hgo:(offs x)[j]?=some (offs x)[j]:=List.getElem?_eq_getElem hjl
   have hom:(offs x)[j]∈offs x:=List.getElem_mem hjl
   have hof:=zcW hs hg hom
   have htk:(offs x).take (j+1)=(offs x).take j++[(offs x)[j]]:=by rw[List.take_add_one,hgo]; rfl
   have hng:(zdG x t)[j]?=some ((t+1+(offs x)[j]:Nat):Int):=by simp[zdG,hgo]
   generalize(offs x)[j]=o at hgo hom hof htk hng
   have hread:((zac .u32 (zb2 f (t+1))).drop (t+1+o)).take 1=[.int .u32 (wd (f.drop (t+1+o)):Nat)]:=by
    have hcl:=zhY f (t+1) (by omega)
    have hcg:=zpL f (t+1) (t+1+o) (by omega) hof
    rw[zaT _ _ _ (by omega)]
    rw[List.getElem?_eq_getElem (by omega),Option.some.injEq] at hcg
    rw[hcg]
   have hor:orI .u32 ((zas (bh (f.drop (t+1)) ((offs x).take j)) 18:Nat):Int) ((wd (f.drop (t+1+o)):Nat):Int)=((zas (bh (f.drop (t+1)) ((offs x).take (j+1))) 18:Nat):Int):=by
    rw[or32 (Nat.lt_of_lt_of_le (zbk _ 18) (by decide)) (zvh _),htk,←zqt,List.drop_drop]
   have hcl:=zhY f (t+1) (by omega)
   simp(disch:=omega)[ltT,hng,hread,hcl,hor,leTn,FL,zaa,zad,zag,hjl,-Int.natCast_add]
  ·have hne:j=(offs x).length:=by omega
   subst hne
   rw[List.take_length]
   have hcl:=zhY f (t+1) (by omega)
   have hwd:=zv4 x (f.drop (t+1))
   rw[←hdr] at hwd
   have hset:=zpM f t htl
   have hlu:zhh x<2^32:=Nat.lt_of_lt_of_le (zbk _ 18) (by decide)
   have hor:orI .u32 ((zhh x:Nat):Int) (zj6 .u32 ((zas (bh (f.drop (t+1)) (offs x)) 18:Nat):Int) ((zgs x:Nat):Int))=((wd (f.drop t):Nat):Int):=by
    rw[zgs,zsR _ _ 18 (by decide),or32 hlu (Nat.lt_of_lt_of_le (zbk _ 18) (by decide)),zhh,zqs,hwd]
   have hcset:=zbq .u32 (zb2 f (t+1)) t (wd (f.drop t)) (by omega)
   rw[hset] at hcset
   simp(disch:=omega)[FL,hgg,hcs,ltT,leT,-Int.natCast_add]
   refine zab hu ?_
   simp(disch:=omega)[FL,hgg,hcs,ltT,leT,-Int.natCast_add]
   refine zab hse ?_
   have s3:subI .i64 (t:Int) 1=(f.length:Int)-1-((i+1:Nat):Int):=by rw[zct]<;>omega
   simp(disch:=omega)[hor,hcl,leTn,hcset,htl,s3,zaa,zad,hlt,e3,-Int.natCast_add]
 ·have hne:i=f.length:=by omega
  subst hne
  have hF:((f.length:Int)≤(f.length:Int)-1)=False:=eq_false (by omega)
  have hc:zb2 f 0=zcV f:=by simp[zb2]
  have hch:zbj 1 f.length (zac .u32 (zcV f))=nats .u32 (zcV f):=by rw[←ze2 f]; exact zjz .u32 (zcV f)
  have hnl:=ze2 f
  simp[hF,hc,hnl,zai hnl,hch,leTn]
theorem zsS[HasIns G][HasCheck G][HasTells G][HasLive G](f:List In4)(t:Nat)(x:In4)(hg:f[t]?=some x)(hk:∀ x∈f,x.k<4294967296)(hs:zap f=true) :
  FP G 172 [FL f,.int .i64 t] (.tup [.int .u32 (zas (bh (f.drop (t+1)) (offs x)) 18:Nat),.int .i64 0]):=by
 refine zak HasLive.h_live_Behind (Nat.le_of_ble_eq_true rfl) ?_
 obtain⟨htl,hx⟩:=List.getElem?_eq_some_iff.1 hg
 have hgg:=zbg htl
 have hxm:f[t]∈f:=List.getElem_mem htl
 rw[hx] at hgg hxm
 have hkk:=hk x hxm
 obtain⟨o1,_,hlen⟩:=zei hs hg
 simp only[oneB,Bool.and_eq_true] at o1
 have hn:=zoX (G:=G) x t hkk (zb3 o1.1.1.1) (by omega)
 have hcs:x.cs=[.int .i64 x.op,.int .i64 x.jt,.int .i64 x.jf,.int .u32 (x.k:Int)]:=rfl
 simp[IV,hcs] at hn
 simp
 refine zab (zAJ f hk hs) ?_
 have hF:((f.length:Int)≤(t:Int))=False:=eq_false (by omega)
 simp(disch:=omega)[hF,ltF,FL,hgg,hcs]
 refine zab hn ?_
 simp
 refine W_up (offs x).length (fun j=>[(6,.vs (nats .u32 (zcV f)) .no),(8,.int .u32 (zas (bh (f.drop (t+1)) ((offs x).take j)) 18:Nat)),(33,.vs (ints .i64 (zdG x t)) .no),(34,.int .i64 (offs x).length),(35,.int .i64 j)])
  (fun _=>[]) (fun _=>True) ?_ ?_
 ·have hb0:zas (bh (f.drop (t+1)) []) 18=0:=ziL 18
  simp[zaa,zad,FL,hb0,zdG]
 intro j hj _
 have hol:=zoZ x
 by_cases hjl:j<(offs x).length
 ·have hgo:(offs x)[j]?=some (offs x)[j]:=List.getElem?_eq_getElem hjl
  have hom:(offs x)[j]∈offs x:=List.getElem_mem hjl
  have hof:=zcW hs hg hom
  have htk:(offs x).take (j+1)=(offs x).take j++[(offs x)[j]]:=by rw[List.take_add_one,hgo]; rfl
  have hng:(zdG x t)[j]?=some ((t+1+(offs x)[j]:Nat):Int):=by simp[zdG,hgo]
  generalize(offs x)[j]=o at hgo hom hof htk hng
  have hread:=zjG f (t+1+o) hof
  have hor:orI .u32 ((zas (bh (f.drop (t+1)) ((offs x).take j)) 18:Nat):Int) ((wd (f.drop (t+1+o)):Nat):Int)=((zas (bh (f.drop (t+1)) ((offs x).take (j+1))) 18:Nat):Int):=by
   rw[or32 (Nat.lt_of_lt_of_le (zbk _ 18) (by decide)) (zvh _),htk,←zqt,List.drop_drop]
  simp(disch:=omega)[ltT,hng,hread,hor,leTn,FL,zaa,zad,zag,hjl,-Int.natCast_add]
 ·have hne:j=(offs x).length:=by omega
  subst hne
  simp
end Go.Ev
/- The law LiveLast. -/
namespace Go.Ev
open Go Go.RowKit
variable {G:Tbl}
theorem zo0{f:List In4}(h:zap f=true):f≠[]:=by
 rintro rfl; simp[zap,endB] at h
end Go.Ev
/- What hurdleref07 says is needed. -/
namespace Go.Ev
open Go Go.RowKit
variable {G:Tbl}
def cb(l:List Bool):List V:=l.map V.bool
@[simp] theorem zBa (l:List Bool):(cb l).length=l.length:=by simp[cb]
@[simp] theorem cb_cl (n:Nat) (l:List Bool):clL n (cb l)=cb l:=by
 rw[zav]; simp[cb,Function.comp_def]
theorem zxi(l:List Bool)(i:Nat)(b:Bool)(h:l[i]?=some b):((cb l).drop i).take 1=[.bool b]:=by
 obtain⟨hl,rfl⟩:=List.getElem?_eq_some_iff.1 h
 rw[cb,←List.map_drop,List.drop_eq_getElem_cons hl]
 rfl
theorem zlR(l:List Bool)(i:Nat)(x:Bool)(h:i<l.length):(cb l).take i++(V.bool x::(cb l).drop (i+1))=cb (l.set i x):=by
 rw[cb,←List.map_drop,←List.map_take,List.set_eq_take_append_cons_drop,if_pos h]
 simp[cb]
@[simp] theorem zBA (l:List Bool):(cb l).all V.pure=true:=by simp[cb]
@[simp high] theorem zBb (base:Nat) (e:Env) (H:Heap) (s bytes:Nat) (n:X):ev1 base e H (.mksl s bytes [.bool false] n)=(match n.ev e with
  | .int _ m=>if zaJ H (base+s)=true∧0≤m∧m.toNat*bytes≤140737488355328 then some (.rs (base+s) 0 m.toNat 1,H.set (base+s) (some (.cells (cb (List.replicate m.toNat false))))) else none
  | _=>none):=by
 have h:∀ m:Nat,(List.replicate m [V.bool false]).flatten=cb (List.replicate m false):=fun m=>by
  induction m with
  | zero=>rfl
  | succ m ih=>rw[List.replicate_succ,List.flatten_cons,ih]; simp[cb,List.replicate_succ]
 rw[ev1.eq_27]
 cases n.ev e<;>simp only[h,List.length_singleton]
theorem ziM{f:List In4}{i:Nat}{x:In4}(h:zap f=true)(hg:f[i]?=some x):x.brOk:=by
 have:=(zei h hg).1
 simp only[oneB,Bool.and_eq_true] at this
 exact zb3 this.1.1.1
end Go.Ev
/- Runs, by hurdleref06; and the law LiveRuns. -/
namespace Go.Ev
open Go Go.RowKit
variable {G:Tbl}
def goes(s:St)(x:In4):Nat:=if x.op=5 then x.k else if isBr x.op then(if takesB s x then x.jt.toNat else x.jf.toNat) else 0
def run(d:Da)(g:List In4)(s:St):Nat×Nat :=
 match g with
 | []=>(0,0)
 | x::g=>if x.op=6 then(x.k,1) else if x.op=22 then(s.a,1) else if(zaw s x d).2 then((run d (g.drop (goes s x)) (zaw s x d).1).1,(run d (g.drop (goes s x)) (zaw s x d).1).2+1) else(0,1)
termination_by g.length
decreasing_by all_goals (simp only[List.length_drop,List.length_cons]; omega)
theorem zej(d:Da)(x:In4)(g:List In4)(s:St):run d (x::g) s=if x.op=6 then(x.k,1) else if x.op=22 then(s.a,1) else if(zaw s x d).2 then((run d (g.drop (goes s x)) (zaw s x d).1).1,(run d (g.drop (goes s x)) (zaw s x d).1).2+1) else(0,1):=by
 rw[run]
theorem zjH{x:In4}(h:zay x.op=false)(s:St):goes s x∈offs x:=by
 unfold goes offs
 rw[h]
 simp only[Bool.false_eq_true,if_false]
 by_cases h5:x.op=5
 ·simp[h5]
 ·rw[if_neg h5,if_neg h5]
  split
  ·split<;>simp
  ·simp
theorem zpN{s t:St}{x:In4}(h:∀ i,i<18→zaR x i=true→part s i=part t i):takesB s x=takesB t x:=by
 cases hb:isBr x.op
 ·rw[zlt hb,zlt hb]
 ·have h0:=h 0 (by decide) (by simp[zaR,hb])
  by_cases hx:x.op∈[29,45,61,77]
  ·have h1:=h 1 (by decide) (by simp only[zaR,byXB,hx]; simp)
   simp only[part] at h0 h1
   simp only[takesB,h0,h1]
  ·simp only[part] at h0
   simp only[takesB,h0,hx,if_false]
theorem znh(d:Da)(hd:d.ok):∀(n:Nat) (g:List In4) (s t:St),g.length≤n→s.ok→t.ok→(∀ x∈g,x.k<4294967296)→(∀ p,p<18→nd g p=true→part s p=part t p)→run d g s=run d g t
 | _,[],s,t,_,_,_,_,_=>by rw[run,run]
 | 0,x::g,s,t,h,_,_,_,_=>by simp at h
 | n+1,x::g,s,t,h,hs,ht,hk,hp=>by
  have h1:=hk x (by simp)
  have hu:∀ i,i<18→zaR x i=true→part s i=part t i:=fun i hi hu=>hp i hi (by rw[zmz,hu]; rfl)
  obtain⟨e1,e2⟩:=zq0 s t x d hs.2.2.1 ht.2.2.1 hu
  rw[zej,zej]
  by_cases h6:x.op=6
  ·rw[if_pos h6,if_pos h6]
  rw[if_neg h6,if_neg h6]
  by_cases h22:x.op=22
  ·rw[if_pos h22,if_pos h22]
   have:=hu 0 (by decide) (by simp[zaR,h22])
   simp only[part] at this
   rw[this]
  rw[if_neg h22,if_neg h22]
  have he:zay x.op=false:=by simp[zay,h6,h22]
  have hg:goes s x=goes t x:=by unfold goes; rw[zpN hu]
  have ho:=zjH he t
  have hrc:=znh d hd n (g.drop (goes t x)) (zaw s x d).1 (zaw t x d).1 (by simp at h ⊢; omega) (zeo hs h1 hd) (zeo ht h1 hd) (fun y hy=>hk y (by simp[List.mem_of_mem_drop hy])) fun p hp18 hn=>by
   cases hse:za6 x p
   ·rw[zkD s x d hs.2.2.1 p hp18 hse,zkD t x d ht.2.2.1 p hp18 hse]
    refine hp p hp18 ?_
    rw[zmz,hse]
    have:(offs x).any (fun o=>nd (g.drop o) p)=true:=List.any_eq_true.2 ⟨_,ho,hn⟩
    rw[this]; simp
   ·exact e2 p hp18 hse
  rw[hg,e1,hrc]
end Go.Ev
/- Records with another word; and branches whose ways are swapped. -/
namespace Go.Ev
open Go Go.RowKit
variable {G:Tbl}
def two(w:List Nat)(i:Nat):Nat:=w.getD i 0+w.getD (i+1) 0*4294967296
def ofW(w:List Nat):Da:=⟨w.getD 0 0,w.getD 1 0,two w 2,(List.range 6).map fun i=>two w (4+2*i)⟩
def zlS(d:Da)(at' v:Nat):Da:=if at'%4=0∧at'<64 then ofW ((zaF d).set (at'/4) v) else d
theorem zup{w:List Nat}(hl:w.length=16)(hw:∀ x∈w,x<4294967296):zaF (ofW w)=w:=by
 match w,hl with
 | [a0,a1,a2,a3,a4,a5,a6,a7,a8,a9,a10,a11,a12,a13,a14,a15],_ =>
  simp only[List.mem_cons,List.not_mem_nil,or_false,forall_eq_or_imp,forall_eq] at hw
  simp only[zaF,ofW,two,lo,hi,List.range_succ,List.range_zero,List.nil_append,List.map_append,List.map_cons,List.map_nil,List.cons_append,List.flatMap_cons,List.flatMap_nil,List.getD_cons_zero,List.getD_cons_succ,Nat.mul_zero,Nat.mul_one,Nat.reduceMul,Nat.reduceAdd,List.cons.injEq,and_true,true_and]
  and_intros<;>omega
theorem zjI{w:List Nat}(hl:w.length=16)(hw:∀ x∈w,x<4294967296):(ofW w).ok:=by
 have hg:∀ i,w.getD i 0<4294967296:=by
  intro i
  rw[List.getD]
  cases h:w[i]? with
  | none=>decide
  | some z=>exact hw z (List.mem_of_getElem? h)
 have h2:∀ i,two w i<18446744073709551616:=fun i=>by
  have:=hg i; have:=hg (i+1); unfold two; omega
 refine⟨hg 0,hg 1,h2 2,by simp[ofW],fun x hx=>?_⟩
 simp only[ofW,List.mem_map] at hx
 obtain⟨i,_,rfl⟩:=hx
 exact h2 _
theorem zxj{l:List Nat}{i v n:Nat}(h:∀ x∈l,x<n)(hv:v<n):∀ x∈l.set i v,x<n:=fun x hx=>by
 rcases List.mem_or_eq_of_mem_set hx with h1|h1
 ·exact h x h1
 ·rw[h1]; exact hv
end Go.Ev
/- What run.Run and hurdleref06.Run compute. -/
namespace Go.Ev
open Go Go.RowKit
variable {G:Tbl}
def St0:St:=⟨0,0,zae 16⟩
theorem zxk:St0.ok:=⟨by decide,by decide,by simp[St0],fun w hw=>by
 simp only[St0,zae,List.mem_replicate] at hw
 omega⟩
end Go.Ev
/- What data.With computes. -/
namespace Go.Ev
open Go Go.RowKit
variable {G:Tbl}
theorem zAK(a b c:V)(l:List V)(n:Nat):(a::b::c::l).take (3+n)=a::b::c::l.take n:=by rw[Nat.add_comm]; rfl
theorem zAL(a b c:V)(l:List V)(n:Nat):(a::b::c::l).drop (3+n)=l.drop n:=by rw[Nat.add_comm]; rfl
theorem zxl(a b c:V)(l:List V)(n:Nat):(a::b::c::l).drop (3+n+1)=l.drop (n+1):=by rw[show 3+n+1=(n+1)+3 by omega]; rfl
theorem zxm(b c:V)(l:List V)(n:Nat):(b::c::l).drop (3+n)=l.drop (n+1):=by rw[show 3+n=(n+1)+2 by omega]; rfl
theorem zsT{w:List Nat}(hw:∀ x∈w,x<4294967296)(i:Nat):orI .u64 ((w.getD i 0:Nat):Int) (shlI .u64 ((w.getD (i+1) 0:Nat):Int) 32)=((two w i:Nat):Int):=by
 have hg:∀ i,w.getD i 0<4294967296:=by
  intro i
  rw[List.getD]
  cases h:w[i]? with
  | none=>decide
  | some z=>exact hw z (List.mem_of_getElem? h)
 exact zrX _ _ (hg i) (hg (i+1))
def ZD:List V:=[.int .u32 0,.int .u32 0,.int .u64 0,.int .u64 0,.int .u64 0,.int .u64 0,.int .u64 0,.int .u64 0,.int .u64 0]
def HG(w:List Nat)(n:Nat)(a b c:Nat)(l:List Nat):Heap:=[some (.cells (zac .u32 w)),some (.cells ZD),some (.cells [.int .i64 n]),some (.cells (.int .u32 (a:Int)::.int .u32 (b:Int)::.int .u64 (c:Int)::zac .u64 l))]
theorem zxn[HasWith G](w:List Nat)(n a b c:Nat)(l:List Nat)(hl:w.length=16)(hw:∀ x∈w,x<4294967296)(hn:n+1<16) :
  Big G (.F 231 [.ptr 0 0,.ptr 2 0] (HG w n a b c l) (.int .u64 (two w n:Nat)) (HG w (n+2) a b c l)):=by
 have c1:=zaT .u32 w n (by omega)
 have c2:=zaT .u32 w (n+1) (by omega)
 have d1:w.getD n 0=w[n]:=by simp[List.getD,List.getElem?_eq_getElem (show n<w.length by omega)]
 have d2:w.getD (n+1) 0=w[n+1]:=by simp[List.getD,List.getElem?_eq_getElem (show n+1<w.length by omega)]
 have ho:=zsT hw n
 rw[d1,d2] at ho
 have l1:=hw _ (List.getElem_mem (show n<w.length by omega))
 have l2:=hw _ (List.getElem_mem (show n+1<w.length by omega))
 have v1:=zlu w[n] (by omega)
 have v2:=zlu w[n+1] (by omega)
 have e1:addI .i64 (n:Int) 1=((n+1:Nat):Int):=zag (by omega)
 have e2:addI .i64 (n:Int) 2=((n+2:Nat):Int):=addL (n:=2) (by omega)
 have i1:((n:Int)<16)=True:=ltT (by omega)
 have i2:(((n+1:Nat):Int)<16)=True:=ltT (by omega)
 have j1:(n+1≤16)=True:=leTn (by omega)
 have j2:(n+1+1≤16)=True:=leTn (by omega)
 have j3:(n≤14)=True:=leTn (by omega)
 refine F_of HasWith.h_data_of_1 (Nat.le_of_ble_eq_true rfl) ?_
 simp[HG,ZD,e1,e2,i1,i2,j1,j2,j3,c1,c2,v1,v2,ho,hl,-Int.natCast_add]
def zdj(w:List Nat)(i:Nat):List Nat:=(List.range 6).map fun j=>if j<i then two w (4+2*j) else 0
theorem zjJ(w:List Nat)(i:Nat):(zdj w i).length=6:=by simp[zdj]
theorem zrr(w:List Nat){i:Nat}(hi:i<6):(zdj w i).set i (two w (4+2*i))=zdj w (i+1):=by
 apply List.ext_getElem?
 intro j
 rw[List.getElem?_set,zjJ]
 by_cases h:i=j
 ·subst h
  simp[zdj,hi]
 ·rw[if_neg h]
  by_cases hj:j<6
  ·simp only[zdj,List.getElem?_map,List.getElem?_range hj,Option.map_some]
   by_cases h2:j<i
   ·simp[h2,show j<i+1 by omega]
   ·simp[h2,show¬j<i+1 by omega]
  ·simp[zdj,hj]
theorem zv5(w:List Nat):zdj w 6=(ofW w).args:=by
 simp only[zdj,ofW]
 apply List.map_congr_left
 intro j hj
 simp[List.mem_range.1 hj]
theorem zv6(w:List Nat):zdj w 0=zae 6:=by
 simp[zdj,zae,List.range_succ]
theorem zxo[HasWith G](w:List Nat)(hl:w.length=16)(hw:∀ x∈w,x<4294967296):FP G 232 [.agg (zac .u32 w)] (DV (ofW w)):=by
 refine zak HasWith.h_data_of (Nat.le_of_ble_eq_true rfl) ?_
 have htw:=zai (k:=.u32) hl
 have c0:(zac .u32 w).take 1=[.int .u32 (w[0]:Nat)]:=by have:=zaT .u32 w 0 (by omega); rwa[List.drop_zero] at this
 have c1:(zac .u32 w).tail.take 1=[.int .u32 (w[1]:Nat)]:=by have:=zaT .u32 w 1 (by omega); rwa[List.drop_one] at this
 have c2:=zaT .u32 w 2 (by omega)
 have c3:=zaT .u32 w 3 (by omega)
 have d:∀ i (h:i<16),w.getD i 0=w[i]:=fun i h=>by simp[List.getD,List.getElem?_eq_getElem (show i<w.length by omega)]
 have ho:=zsT hw 2
 rw[d 2 (by omega),d 3 (by omega)] at ho
 have l2:=hw _ (List.getElem_mem (show 2<w.length by omega))
 have l3:=hw _ (List.getElem_mem (show 3<w.length by omega))
 have v2:=zlu w[2] (by omega)
 have v3:=zlu w[3] (by omega)
 simp[c0,c1,c2,c3,v2,v3,ho,hl,htw]
 refine W_up 6 (fun i=>[(2,.ptr 1 0),(4,.fn 231 [.ptr 0 0,.ptr 2 0]),(5,.ptr 3 0),(21,.int .i64 i)])
  (fun i=>HG w (4+2*i) w[0] w[1] (two w 2) (zdj w i)) (fun _=>True) ?_ ?_
 ·have hz6:zac .u64 (zae 6)=[.int .u64 0,.int .u64 0,.int .u64 0,.int .u64 0,.int .u64 0,.int .u64 0]:=rfl
  simp[zaa,zad,HG,ZD,zv6,hz6,hl,htw]
 intro i hi _
 by_cases hlt:i<6
 ·have hg:=zxn (G:=G) w (4+2*i) w[0] w[1] (two w 2) (zdj w i) hl hw (by omega)
  have hfl:=zjJ w i
  have cs:=zbq .u64 (zdj w i) i (two w (4+2*i)) (by omega)
  rw[zrr w hlt] at cs
  simp[HG,ZD,-Int.natCast_add,-Int.natCast_mul] at hg
  simp(disch:=omega)[ltT,leTn,HG,ZD,-Int.natCast_add,-Int.natCast_mul]
  refine zaG hg (by simp) ?_
  simp(disch:=omega)[zad,zAK,zAL,zxl,zxm,hfl,cs,ltT,leTn,zag,hlt,zaa,show 4+2*(i+1)=4+2*i+2 from by omega,-Int.natCast_add,-Int.natCast_mul]
 ·have hne:i=6:=by omega
  subst hne
  have h6:=zv5 w
  have h6l:=zjJ w 6
  have ht6:=zai (k:=.u64) h6l
  have e0:=d 0 (by omega)
  have e1:=d 1 (by omega)
  simp[HG,ZD,DV,Da.cs,h6l,ht6]
  rw[←h6]
  simp[ofW,hl]
theorem zv7[HasData G][HasWith G](d:Da)(n v:Nat)(hd:d.ok)(hn:n<4294967296)(hv:v<4294967296):FP G 233 [DV d,.int .u32 n,.int .u32 v] (DV (zlS d n v)):=by
 refine zak HasWith.h_data_With (Nat.le_of_ble_eq_true rfl) ?_
 have hw:=zof (G:=G) d hd
 have ht:=zai (k:=.u64) hd.2.2.2.1
 have h6:=hd.2.2.2.1
 simp[DV,Da.cs] at hw ⊢
 refine zab (zog n hn) ?_
 by_cases h:n%4=0∧n<64
 ·have hq:quoI .u32 (n:Int) 4=((n/4:Nat):Int):=zro (b:=4) hn (by decide)
  have hl:=zbH h6
  have htw:=zai (k:=.u32) hl
  have cs:=zbq .u32 (zaF d) (n/4) v (by omega)
  have hl2:((zaF d).set (n/4) v).length=16:=by rw[List.length_set]; exact hl
  have htw2:=zai (k:=.u32) hl2
  have hof:=zxo (G:=G) ((zaF d).set (n/4) v) hl2 (zxj (zi9 hd) hv)
  have ho6:(ofW ((zaF d).set (n/4) v)).args.length=6:=by simp[ofW]
  have ht2:=zai (k:=.u64) ho6
  simp[DV,Da.cs] at hof
  simp[h,h6,ht,zlS]
  refine zab hw ?_
  simp(disch:=omega)[hq,ltT,leTn,hl,htw,cs,hl2,htw2,-Int.natCast_ediv]
  refine zab hof ?_
  simp[ho6,ht2]
 ·simp[h,zlS,h6,ht]
end Go.Ev
/- Windows that are run, and their variables' numbers: plain. -/
namespace Go.Ev
open Go Go.RowKit
variable {G:Tbl}
def runW(d:Da):List In4→St→St×Nat
 | [],s=>(s,0)
 | x::w,s=>if(zaw s x d).2 then((runW d w (zaw s x d).1).1,(runW d w (zaw s x d).1).2+1) else(s,0)
theorem zex(d:Da):∀(w:List In4) (s:St),(runW d w s).2≤w.length
 | [],s=>Nat.zero_le _
 | x::w,s=>by
  have:=zex d w (zaw s x d).1
  simp only[runW,List.length_cons]
  split
  ·simp only; omega
  ·simp
theorem zey{d:Da}(hd:d.ok):∀(w:List In4) (s:St),s.ok→(∀ x∈w,x.k<4294967296)→(runW d w s).1.ok
 | [],s,hs,_=>hs
 | x::w,s,hs,hk=>by
  have:=zey hd w (zaw s x d).1 (zeo hs (hk x (by simp)) hd) (fun y hy=>hk y (by simp[hy]))
  simp only[runW]
  split
  ·exact this
  ·exact hs
def asgL(s:St)(d:Da):List Nat:=s.a::s.x::(s.m++zaF d)
def stO(v:List Nat):St:=⟨v.getD 0 0,v.getD 1 0,(v.drop 2).take 16⟩
theorem zle{s:St}{d:Da}(hs:s.ok)(hd:d.ok):(asgL s d).length=34:=by
 simp[asgL,hs.2.2.1,zbH hd.2.2.2.1]
theorem zqu{s:St}{d:Da}(hs:s.ok)(hd:d.ok):∀ x∈asgL s d,x<4294967296:=by
 intro x hx
 simp only[asgL,List.mem_cons,List.mem_append] at hx
 rcases hx with rfl|rfl|hx|hx
 ·exact hs.1
 ·exact hs.2.1
 ·exact hs.2.2.2 x hx
 ·exact zi9 hd x hx
def wAt(v:List Nat)(i:Nat):List Nat:=(v.drop 18).take i++zae (16-i)
theorem zkk{v:List Nat}(hl:v.length=34){i:Nat}(hi:i≤16):(wAt v i).length=16:=by
 simp[wAt,hl]; omega
theorem zo1{v:List Nat}(hv:∀ x∈v,x<4294967296)(i:Nat):∀ x∈wAt v i,x<4294967296:=by
 intro x hx
 simp only[wAt,List.mem_append,zae,List.mem_replicate] at hx
 rcases hx with hx|hx
 ·exact hv x (List.mem_of_mem_drop (List.mem_of_mem_take hx))
 ·omega
theorem zv8{v:List Nat}(hl:v.length=34){i:Nat}(hi:i<16):(wAt v i).set i (v[18+i]'(by omega))=wAt v (i+1):=by
 apply List.ext_getElem?
 intro j
 have hg:∀ i,i≤16→∀ j,(wAt v i)[j]?=if j<i then v[18+j]? else if j<16 then some 0 else none:=by
  intro i hi j
  rw[wAt,List.getElem?_append,List.length_take,List.length_drop,hl,List.getElem?_take,List.getElem?_drop]
  by_cases h1:j<i
  ·rw[if_pos (by omega),if_pos h1,if_pos h1]
  ·rw[if_neg (by omega),if_neg h1]
   by_cases h2:j<16
   ·rw[if_pos h2]; simp[zae,List.getElem?_replicate]; omega
   ·rw[if_neg h2]; simp[zae,List.getElem?_replicate]; omega
 rw[List.getElem?_set,zkk hl (by omega),hg i (by omega),hg (i+1) (by omega)]
 by_cases e:i=j
 ·subst e
  rw[if_pos rfl,if_pos hi,if_pos (by omega),List.getElem?_eq_getElem (by omega)]
 ·rw[if_neg e]
  by_cases h1:j<i
  ·rw[if_pos h1,if_pos (by omega)]
  ·rw[if_neg h1]
   by_cases h2:j<i+1
   ·omega
   ·rw[if_neg h2]
theorem zuq{v:List Nat}(hl:v.length=34)(hv:∀ x∈v,x<4294967296){i:Nat}(hi:i<16):zlS (ofW (wAt v i)) (4*i) (v[18+i]'(by omega))=ofW (wAt v (i+1)):=by
 rw[zlS,if_pos ⟨by omega,by omega⟩,zup (zkk hl (by omega)) (zo1 hv i),show 4*i/4=i by omega,zv8 hl hi]
theorem zxp{v:List Nat}(hl:v.length=34):wAt v 16=v.drop 18:=by
 rw[wAt,show zae (16-16)=[] from rfl,List.append_nil,List.take_of_length_le (by simp[hl])]
theorem zAM(v:List Nat):wAt v 0=zae 16:=by simp[wAt]
theorem zsU{s:St}{d:Da}(hs:s.ok):(asgL s d).drop 18=zaF d:=by
 simp only[asgL,List.drop_succ_cons]
 rw[List.drop_left' hs.2.2.1]
theorem zo2{v:List Nat}(hl:v.length=34)(hv:∀ x∈v,x<4294967296):(stO v).ok:=by
 have hg:∀ i,v.getD i 0<4294967296:=by
  intro i
  rw[List.getD]
  cases h:v[i]? with
  | none=>decide
  | some z=>exact hv z (List.mem_of_getElem? h)
 exact⟨hg 0,hg 1,by simp[stO,hl],fun x hx=>hv x (List.mem_of_mem_drop (List.mem_of_mem_take hx))⟩
end Go.Ev
/- Windows that are run, by window and by hurdleref17; the laws WindowRuns, WindowRows, WindowNone. -/
namespace Go.Ev
open Go Go.RowKit
variable {G:Tbl}
theorem zni[HasWd G][HasNeg G][HasIns G][HasCheck G][HasData G][HasStep G][HasWRight G][HasWinRun G](w:List In4)(s:St)(d:Da)(hf:w.length≤maxLen)(hk:∀ x∈w,x.k<4294967296)(hs:s.ok)(hd:d.ok)(hw:winB w=true) :
  FP G 292 [FL w,SV s,DV d] (.tup [SV (runW d w s).1,.int .i64 ((runW d w s).2:Nat)]):=by
 refine zak HasWinRun.h_window_Run (Nat.le_of_ble_eq_true rfl) ?_
 have hr:=zbW (G:=G) w hf hk
 rw[hw] at hr
 have hwl:w.length≤32:=by simp only[winB,Bool.and_eq_true,decide_eq_true_eq] at hw; exact hw.1
 have hl:=hs.2.2.1
 have htk:=zai (k:=.u32) hl
 have h6:=hd.2.2.2.1
 have ht6:=zai (k:=.u64) h6
 obtain⟨R,hR⟩:∃ R,R=runW d w s:=⟨_,rfl⟩
 have hRl:=zex d w s
 have hRo:=zey hd w s hs hk
 rw[←hR] at hRl hRo ⊢
 simp[FL] at hr
 simp[FL,SV,DV,St.cs,Da.cs]
 refine zab hr ?_
 simp[hl,htk]
 refine zgJ (fun z:St×Nat=>w.length-z.2) (fun z=>[(0,FL w),(4,.ptr 0 0),(5,.ptr 1 0),(6,.ptr 2 0),(16,FL w),(17,.int .i64 w.length),(18,.int .i64 z.2)])
  (fun z=>[some (.cells z.1.cs),some (.cells d.cs),some (.cells (zac .u32 (zae 18)))])
  (fun z=>z.2≤w.length∧z.1.ok∧(runW d (w.drop z.2) z.1).1=R.1∧z.2+(runW d (w.drop z.2) z.1).2=R.2) (s,0) ?_ ?_
 ·refine⟨⟨Nat.zero_le _,hs,by simp[hR],by simp[hR]⟩,?_,?_⟩
  ·simp[zaa,FL]
  ·simp[zad,Da.cs,St.cs]
 rintro⟨t,i⟩ ⟨hi,ht,hr1,hr2⟩
 simp only at hi ht hr1 hr2
 have hl1:=ht.2.2.1
 have htk1:=zai (k:=.u32) hl1
 by_cases hlt:i<w.length
 ·obtain⟨x,hfx⟩:∃ x,x=w[i]:=⟨_,rfl⟩
  have hg:w[i]?=some x:=by rw[List.getElem?_eq_getElem hlt,hfx]
  have hgv:=hfx.symm
  have hdr:=List.drop_eq_getElem_cons hlt
  rw[hgv] at hdr
  have hkk:=hk x (hgv▸List.getElem_mem hlt)
  have hcs:x.cs=[.int .i64 x.op,.int .i64 x.jt,.int .i64 x.jf,.int .u32 (x.k:Int)]:=rfl
  have hst:=zvy (G:=G) t x d ht hkk hd
  have hso:=zeo ht hkk hd
  have hl2:=hso.2.2.1
  have htk2:=zai (k:=.u32) hl2
  have hdf:=zht (k:=.u32) hl1
  have hz16:zac .u32 (zae 18)=.int .u32 0::.int .u32 0::zac .u32 (zae 16):=rfl
  rw[hdr] at hr1 hr2
  simp only[runW] at hr1 hr2
  simp[SV,IV,DV,hcs,St.cs,Da.cs] at hst
  simp(disch:=omega)[ltT,FL,hg,hgv,hcs,St.cs,Da.cs,hl1,htk1,h6,ht6,-Int.natCast_add]
  refine zab hst ?_
  cases hok:(zaw t x d).2
  ·rw[hok] at hr1 hr2
   simp only[Bool.false_eq_true,if_false] at hr1 hr2
   simp[hl1,htk1,hl2,htk2,hdf,hz16,-Int.natCast_add]
   rw[←hr1,←hr2]
   simp[St.cs]
  ·rw[hok] at hr1 hr2
   simp only[if_true] at hr1 hr2
   simp(disch:=omega)[hl1,htk1,hl2,htk2,hdf,zag,-Int.natCast_add]
   refine⟨((zaw t x d).1,i+1),by simp only; omega,⟨by simp only; omega,hso,hr1,by simp only; omega⟩,?_,?_⟩
   ·simp[zaa,FL,-Int.natCast_add]
   ·simp[zad,Da.cs,St.cs,hl1,htk1,hl2,htk2,hdf]
 ·have hne:i=w.length:=by omega
  subst hne
  rw[List.drop_length] at hr1 hr2
  simp only[runW] at hr1 hr2
  have hz16:zac .u32 (zae 18)=.int .u32 0::.int .u32 0::zac .u32 (zae 16):=rfl
  simp[FL,St.cs,Da.cs,hl1,htk1,hz16]
  rw[←hr1,←hr2]
  simp[St.cs]
end Go.Ev
/- The laws WindowRuns, WindowRows, WindowNone. -/
namespace Go.Ev
open Go Go.RowKit
variable {G:Tbl}
theorem zqv(l:List In4):(IL l=[])=(l=[]):=propext (zjY l)
end Go.Ev
/- The variables' numbers, and back; the law WindowAssigns. -/
namespace Go.Ev
open Go Go.RowKit
variable {G:Tbl}
def asAt(s:St)(d:Da)(i:Nat):List Nat:=s.a::s.x::(s.m++((zaF d).take i++zae (16-i)))
theorem zlf{s:St}{d:Da}(hs:s.ok)(hd:d.ok){i:Nat}(hi:i≤16):(asAt s d i).length=34:=by
 simp[asAt,hs.2.2.1,zbH hd.2.2.2.1]; omega
theorem zmA{s:St}{d:Da}(hd:d.ok):asAt s d 16=asgL s d:=by
 rw[asAt,show zae (16-16)=[] from rfl,List.append_nil,List.take_of_length_le (by rw[zbH hd.2.2.2.1]; exact Nat.le_refl _),asgL]
theorem zur{s:St}{d:Da}(hs:s.ok)(hd:d.ok){i:Nat}(hi:i<16):(asAt s d i).set (18+i) ((zaF d).getD i 0)=asAt s d (i+1):=by
 have hw:=zbH hd.2.2.2.1
 have hm:=hs.2.2.1
 have hg:(zaF d).getD i 0=(zaF d)[i]'(by omega):=by simp[List.getD,List.getElem?_eq_getElem (show i<(zaF d).length by omega)]
 rw[hg]
 have e1:18+i=(16+i)+1+1:=by omega
 simp only[asAt,e1,List.set_cons_succ]
 congr 2
 rw[List.set_append_right _ _ (by omega),hm,show 16+i-16=i by omega]
 congr 1
 rw[List.set_append_right _ _ (by rw[List.length_take]; omega),List.length_take,Nat.min_eq_left (by omega),Nat.sub_self,List.take_succ_eq_append_getElem (by omega),List.append_assoc]
 congr 1
 rw[show 16-i=(16-(i+1))+1 by omega]
 rfl
theorem zjK[HasData G][HasWinAsg G](s:St)(d:Da)(hs:s.ok)(hd:d.ok):FP G 293 [SV s,DV d] (.agg (zac .u32 (asgL s d))):=by
 refine zak HasWinAsg.h_window_Assign (Nat.le_of_ble_eq_true rfl) ?_
 have hl:=hs.2.2.1
 have htk:=zai (k:=.u32) hl
 have h6:=hd.2.2.2.1
 have ht6:=zai (k:=.u64) h6
 have hz:zac .u32 (zae 34)=.int .u32 0::.int .u32 0::zac .u32 (zae 32):=rfl
 have hz2:(zac .u32 (zae 32)).drop 16=zac .u32 (zae 16):=rfl
 have h0:asAt s d 0=s.a::s.x::(s.m++zae 16):=by simp[asAt]
 have hcap:∀ l m:List Nat,zac .u32 (l++m)=zac .u32 l++zac .u32 m:=fun l m=>by simp[zac]
 simp[SV,DV,St.cs,Da.cs,hz,hl,htk,hz2]
 refine W_up 16 (fun i=>[(3,.ptr 1 0),(4,.ptr 2 0),(5,.ptr 3 0),(17,.int .i64 i)])
  (fun i=>[some (.cells s.cs),some (.cells d.cs),some (.cells (zac .u32 (zae 34))),some (.cells (zac .u32 (asAt s d i)))]) (fun _=>True) ?_ ?_
 ·have hj:clL 4 (zac .u32 s.m++zac .u32 (zae 16))=zac .u32 (s.m++zae 16):=by rw[←hcap]; simp
  simp[zaa,zad,St.cs,Da.cs,h0,hz,hj]
  rfl
 intro i hi _
 by_cases hlt:i<16
 ·have hw:=zp1 (G:=G) d (4*i) hd (by omega)
  have hw2:zeG d (4*i)=((zaF d).getD i 0,true):=by rw[zeG,if_pos ⟨by omega,by omega⟩,show 4*i/4=i by omega]
  rw[hw2] at hw
  have hal:=zlf hs hd hi
  have cs:=zbq .u32 (asAt s d i) (18+i) ((zaF d).getD i 0) (by omega)
  rw[zur hs hd hlt] at cs
  obtain⟨x,hx⟩:∃ x,x=(zaF d).getD i 0:=⟨_,rfl⟩
  rw[←hx] at cs hw
  have e1:addI .i64 18 (i:Int)=((18+i:Nat):Int):=by rw[show(18:Int)=((18:Nat):Int) from rfl]; exact addN (by omega)
  have e2:mulI .i64 4 (i:Int)=((4*i:Nat):Int):=by unfold mulI; rw[show(4:Int)*(i:Int)=((4*i:Nat):Int) by omega]; exact IntWalk.i64_in _ ⟨by omega,by omega⟩
  have e3:za4 .u32 ((4*i:Nat):Int)=((4*i:Nat):Int):=by unfold za4; exact IntWalk.u32_in _ ⟨by omega,by omega⟩
  simp[DV,Da.cs,-Int.natCast_mul] at hw
  simp(disch:=omega)[ltT,leTn,e1,e2,e3,Da.cs,h6,ht6,-Int.natCast_add,-Int.natCast_mul]
  refine zab hw ?_
  simp(disch:=omega)[ltT,leTn,hal,cs,hlt,zag,zaa,zad,St.cs,Da.cs,h6,ht6,-Int.natCast_add,-Int.natCast_mul]
 ·have hne:i=16:=by omega
  subst hne
  have hal:=zle hs hd
  have ht:=zai (k:=.u32) hal
  have e16:=zmA (s:=s) hd
  simp[e16,hal,ht]
theorem zpO[HasData G][HasWith G][HasWinState G](v:List Nat)(hl:v.length=34)(hv:∀ x∈v,x<4294967296):FP G 294 [.agg (zac .u32 v)] (.tup [SV (stO v),DV (ofW (v.drop 18))]):=by
 refine zak HasWinState.h_window_State (Nat.le_of_ble_eq_true rfl) ?_
 have htk:=zai (k:=.u32) hl
 obtain⟨a,hva⟩:∃ a,a=v[0]:=⟨_,rfl⟩
 obtain⟨x,hvx⟩:∃ x,x=v[1]:=⟨_,rfl⟩
 have c0:(zac .u32 v).take 1=[.int .u32 (a:Nat)]:=by have:=zaT .u32 v 0 (by omega); rwa[List.drop_zero,←hva] at this
 have c1:(zac .u32 v).tail.take 1=[.int .u32 (x:Nat)]:=by have:=zaT .u32 v 1 (by omega); rwa[List.drop_one,←hvx] at this
 obtain⟨m,hm⟩:∃ m,m=(v.drop 2).take 16:=⟨_,rfl⟩
 have hml:m.length=16:=by rw[hm]; simp[hl]
 have cm:((zac .u32 v).drop 2).take 16=zac .u32 m:=by rw[hm]; simp[zac,List.map_drop,List.map_take]
 have hmk:=zai (k:=.u32) hml
 have hst:stO v=⟨a,x,m⟩:=by
  rw[hva,hvx,hm]
  simp[stO,List.getD,List.getElem?_eq_getElem (show 0<v.length by omega),List.getElem?_eq_getElem (show 1<v.length by omega)]
 have hz:zac .u32 (zae 18)=.int .u32 0::.int .u32 0::zac .u32 (zae 16):=rfl
 have hz2:(zac .u32 (zae 16)).drop 16=[]:=rfl
 have h0:ofW (wAt v 0)=⟨0,0,0,zae 6⟩:=by rw[zAM]; rfl
 have hz6:zac .u64 (zae 6)=[.int .u64 0,.int .u64 0,.int .u64 0,.int .u64 0,.int .u64 0,.int .u64 0]:=rfl
 simp[hl,htk,c0,c1,cm,hz,hz2,hml,hmk]
 refine W_up 16 (fun i=>[(1,.ptr 0 0),(2,.ptr 1 0),(3,.ptr 2 0),(4,.ptr 3 0),(5,.ptr 4 0),(16,.int .i64 i)])
  (fun i=>[some (.cells (zac .u32 v)),some (.cells (zac .u32 (zae 18))),some (.cells ZD),some (.cells (St.cs ⟨a,x,m⟩)),some (.cells (ofW (wAt v i)).cs)]) (fun _=>True) ?_ ?_
 ·simp[zaa,zad,St.cs,Da.cs,h0,hz,hz6,ZD]
 intro i hi _
 have hok:=zjI (zkk hl hi) (zo1 hv i)
 have h6:=hok.2.2.2.1
 have ht6:=zai (k:=.u64) h6
 by_cases hlt:i<16
 ·have hw:=zv7 (G:=G) (ofW (wAt v i)) (4*i) (v[18+i]'(by omega)) hok (by omega) (hv _ (List.getElem_mem _))
  rw[zuq hl hv hlt] at hw
  have hok2:=zjI (zkk hl (show i+1≤16 by omega)) (zo1 hv (i+1))
  have k6:=hok2.2.2.2.1
  have kt6:=zai (k:=.u64) k6
  have cg:=zaT .u32 v (18+i) (by omega)
  generalize ofW (wAt v i)=D at hw h6 ht6
  obtain⟨D',hD'⟩:∃ D',D'=ofW (wAt v (i+1)):=⟨_,rfl⟩
  rw[←hD'] at hw k6 kt6
  obtain⟨y,hy⟩:∃ y,y=v[18+i]'(by omega):=⟨_,rfl⟩
  rw[←hy] at hw cg
  have e1:addI .i64 18 (i:Int)=((18+i:Nat):Int):=by rw[show(18:Int)=((18:Nat):Int) from rfl]; exact addN (by omega)
  have e2:mulI .i64 4 (i:Int)=((4*i:Nat):Int):=by unfold mulI; rw[show(4:Int)*(i:Int)=((4*i:Nat):Int) by omega]; exact IntWalk.i64_in _ ⟨by omega,by omega⟩
  have e3:za4 .u32 ((4*i:Nat):Int)=((4*i:Nat):Int):=by unfold za4; exact IntWalk.u32_in _ ⟨by omega,by omega⟩
  simp[DV,Da.cs,-Int.natCast_mul] at hw
  simp(disch:=omega)[ltT,leTn,e1,e2,e3,Da.cs,h6,ht6,hl,cg,-Int.natCast_add,-Int.natCast_mul]
  refine zab hw ?_
  simp(disch:=omega)[ltT,leTn,hlt,zag,zaa,zad,St.cs,Da.cs,ZD,h6,ht6,k6,kt6,←hD',zht (k:=.u64) h6,-Int.natCast_add,-Int.natCast_mul]
 ·have hne:i=16:=by omega
  subst hne
  rw[zxp hl] at h6 ht6 ⊢
  simp[St.cs,Da.cs,ZD,h6,ht6,hml,hmk,hz,hst,SV,DV]
end Go.Ev
/- A window's values are what it makes of a state: plain laws. -/
namespace Go.Ev
open Go Go.RowKit
variable {L L':List Nd} {v:List Nat}
theorem zo3{n:Nat}(h:n<L.length):hasI L (n:Int)=true:=by simp[hasI]; exact h
theorem zez{k:Nat}{x:Int}(e:Ext L L' k)(h:hasI L x=true):hasI L' x=true∧valI v L' x=valI v L x:=by
 obtain⟨h0,h1⟩:0≤x∧x<L.length:=by simpa[hasI] using h
 obtain⟨n,rfl⟩:=Int.eq_ofNat_of_zero_le h0
 have:=e.pre.length_le
 exact⟨zo3 (by omega),zek e (by omega)⟩
theorem Res.has{q:Int×List Nd}{o:Option Nat}(h:Res v q o):hasI q.2 q.1=true∧valI v q.2 q.1=o:=by
 obtain⟨n,h1,h2,h3⟩:=h
 rw[h1]
 exact⟨zo3 h2,h3⟩
def pt(t:St):List Nat:=t.a::t.x::t.m
structure PV (v:List Nat) (L:List Nd) (p:List Int) (t:St):Prop where
 len:p.length=18
 val:∀ i,i<18→hasI L (p.getD i 0)=true∧valI v L (p.getD i 0)=some ((pt t).getD i 0)
theorem zxq{t:St}(h:t.ok):(pt t).length=18:=by simp[pt,h.2.2.1]
theorem PV.set{p:List Int}{t t':St}{k i n:Nat}{x:Int}(h:PV v L p t)(e:Ext L L' k)(hx:hasI L' x=true)(hv:valI v L' x=some n)(hi:i<18)(hl:(pt t).length=18)(ht:pt t'=(pt t).set i n):PV v L' (p.set i x) t':=by
 refine⟨by rw[List.length_set]; exact h.len,fun j hj=>?_⟩
 rw[ht,List.getD_eq_getElem?_getD,List.getD_eq_getElem?_getD,List.getElem?_set,List.getElem?_set]
 by_cases hij:i=j
 ·subst hij
  simp only[if_true,h.len,hl,hi,Option.getD_some]
  exact⟨hx,hv⟩
 ·simp only[hij,if_false,←List.getD_eq_getElem?_getD]
  obtain⟨h1,h2⟩:=h.val j hj
  obtain⟨h3,h4⟩:=zez (v:=v) e h1
  exact⟨h3,by rw[h4,h2]⟩
theorem PV.same{p:List Int}{t:St}{k:Nat}(h:PV v L p t)(e:Ext L L' k):PV v L' p t :=
 ⟨h.len,fun j hj=>by obtain⟨h1,h2⟩:=h.val j hj; obtain⟨h3,h4⟩:=zez (v:=v) e h1; exact⟨h3,by rw[h4,h2]⟩⟩
theorem zlT{op:Int}(h:(aluT op).2.2=true):(doW (aluT op).1 0 1).2=true:=by
 unfold aluT at h ⊢
 split at h
 ·rename_i hm
  rw[if_pos hm]
  simp only[List.mem_cons,List.not_mem_nil,or_false] at hm
  rcases hm with rfl|rfl|rfl|rfl|rfl|rfl|rfl|rfl|rfl<;>decide
 ·rename_i hn
  rw[if_neg hn]
  split at h
  ·rename_i hm
   rw[if_pos hm]
   simp only[List.mem_cons,List.not_mem_nil,or_false] at hm
   rcases hm with rfl|rfl|rfl|rfl|rfl|rfl|rfl|rfl|rfl<;>decide
  ·cases h
theorem zus{s:VS}{t:St}{st0:St}{d:Da}{x:In4}(hi:Inv s.L)(h:PV (asgL st0 d) s.L s.p t)(hs0:st0.ok)(hd:d.ok)(ht:t.ok)(hk:x.k<4294967296)(hx:zaC x=true)(hgo:(zaw t x d).2=true) :
  PV (asgL st0 d) (zat s x).L (zat s x).p (zaw t x d).1:=by
 have hv:=zle hs0 hd
 have hvw:=zqu hs0 hd
 obtain⟨v,hvd⟩:∃ v,v=asgL st0 d:=⟨_,rfl⟩
 have hw18:∀ j,j<16→v[18+j]?.getD 0=(zaF d).getD j 0:=fun j hj=>by
  have:=zsU (d:=d) hs0
  rw[←hvd] at this
  rw[List.getD_eq_getElem?_getD,←this,List.getElem?_drop]
 rw[←hvd] at h hv hvw ⊢
 have hl:=zxq ht
 have rk:∀(q:Int×List Nd) (n:Nat),Res v q (some n)→∀(i k:Nat) (t':St),Ext s.L q.2 k→i<18→pt t'=(pt t).set i n→PV v q.2 (s.p.set i q.1) t':=fun q n hr i k t' e hi' ht'=>by
  obtain⟨h1,h2⟩:=hr.has
  exact h.set e h1 h2 hi' hl ht'
 have cp:∀(i j:Nat) (t':St),i<18→j<18→pt t'=(pt t).set i ((pt t).getD j 0)→PV v s.L (s.p.set i (s.p.getD j 0)) t':=fun i j t' hi' hj ht'=>by
  obtain⟨h1,h2⟩:=h.val j hj
  exact h.set (.refl hi 0) h1 h2 hi' hl ht'
 have rc:Res v (putN s.L (zar (x.k::zae 34))) (some x.k):=zjX hi hv hk
 have ec:Ext s.L (putN s.L (zar (x.k::zae 34))).2 1:=(zbA hi (zbG (by simp) (zcd hk) _)).1
 have hmem:x.op=96∨x.op=97∨x.op=2∨x.op=3→x.k<16:=fun ho=>by
  simp only[zaC,Bool.and_eq_true] at hx
  have h2:=hx.2
  rcases ho with ho|ho|ho|ho<;>simp[zbc,ho] at h2<;>exact h2
 have hld:x.op=32→x.k%4=0∧x.k<64:=fun ho=>by
  simp only[zaC,Bool.and_eq_true] at hx
  have h2:=hx.2
  simp[zbc,ho] at h2; exact h2
 cases hal:(aluT x.op).2.2 with
 | true =>
  rw[zaw,if_pos hal] at hgo
  simp only at hgo
  have hst:(zaw t x d).1={ t with a:=(aluR t x).1 }:=by rw[zaw,if_pos hal]; simp only[hgo,if_true]
  rw[hst,zat,if_pos hal]
  -- by what
  have hby:Ext s.L (byV s x).2 1∧hasI (byV s x).2 (byV s x).1=true∧valI v (byV s x).2 (byV s x).1=some (aluB t x):=by
   rw[byV,aluB]
   cases hb:(aluT x.op).2.1 with
   | true =>
    simp only[if_true]
    obtain⟨h1,h2⟩:=h.val 1 (by omega)
    exact⟨.refl hi 1,h1,h2⟩
   | false =>
    simp only[Bool.false_eq_true,if_false]
    obtain⟨h1,h2⟩:=rc.has
    exact⟨ec,h1,h2⟩
  obtain⟨e1,b1,b2⟩:=hby
  obtain⟨p1,p2⟩:=h.val 0 (by omega)
  obtain⟨p3,p4⟩:=zez (v:=v) e1 p1
  have r:=zmI (v:=v) (kind:=(aluT x.op).1) (x:=s.p.getD 0 0) (y:=(byV s x).1) e1.inv hv hvw (zlT hal) p3 b1
  rw[p4,p2,b2] at r
  have ha:(pt t).getD 0 0=t.a:=rfl
  have hr:aluV (aluT x.op).1 (some t.a) (some (aluB t x))=some (aluR t x).1:=zhx hgo
  rw[ha,hr] at r
  exact rk _ _ r 0 3 _ (e1.trans (zkt e1.inv)) (by omega) rfl
 | false =>
  have hst:(zaw t x d).1=zaX t x d:=by rw[zaw,if_neg (by simp[hal])]
  rw[hst,zat,if_neg (by simp[hal]),zaX]
  by_cases o0:x.op=0
  ·simp only[o0,if_true]
   exact rk _ _ rc 0 1 _ ec (by omega) rfl
  by_cases o1:x.op=1
  ·simp only[o1,if_true]
   exact rk _ _ rc 1 1 _ ec (by omega) rfl
  by_cases o32:x.op=32
  ·obtain⟨k4,k64⟩:=hld o32
   have r:=zmJ (v:=v) (i:=((18+x.k/4:Nat):Int)) hi hv hvw (by omega) (by omega)
   rw[Int.toNat_natCast,hw18 _ (by omega)] at r
   have hw:(zeG d x.k).1=(zaF d).getD (x.k/4) 0:=by rw[zeG,if_pos ⟨k4,k64⟩]
   rw[if_neg o0,if_neg o1,if_pos o32,if_neg o0,if_neg o1,if_pos o32]
   have e:((18+x.k/4:Nat):Int)=18+((x.k/4:Nat):Int):=by omega
   rw[e] at r
   exact rk _ _ r 0 1 _ (zfJ hi) (by omega) (by rw[hw]; rfl)
  by_cases o96:x.op=96
  ·have k16:=hmem (.inl o96)
   rw[if_neg o0,if_neg o1,if_neg o32,if_pos o96,if_neg o0,if_neg o1,if_neg o32,if_pos o96]
   exact cp 0 (2+x.k) _ (by omega) (by omega) (by rw[zdW,if_pos k16]; simp only[pt,List.set_cons_zero]; rw[show 2+x.k=x.k+1+1 by omega,List.getD_cons_succ,List.getD_cons_succ])
  by_cases o97:x.op=97
  ·have k16:=hmem (.inr (.inl o97))
   rw[if_neg o0,if_neg o1,if_neg o32,if_neg o96,if_pos o97,if_neg o0,if_neg o1,if_neg o32,if_neg o96,if_pos o97]
   exact cp 1 (2+x.k) _ (by omega) (by omega) (by rw[zdW,if_pos k16]; simp only[pt,List.set_cons_succ,List.set_cons_zero]; rw[show 2+x.k=x.k+1+1 by omega,List.getD_cons_succ,List.getD_cons_succ])
  by_cases o2:x.op=2
  ·have k16:=hmem (.inr (.inr (.inl o2)))
   rw[if_neg o0,if_neg o1,if_neg o32,if_neg o96,if_neg o97,if_pos o2,if_neg o0,if_neg o1,if_neg o32,if_neg o96,if_neg o97,if_pos o2]
   exact cp (2+x.k) 0 _ (by omega) (by omega) (by rw[zb4,if_pos k16,show 2+x.k=x.k+1+1 by omega]; rfl)
  by_cases o3:x.op=3
  ·have k16:=hmem (.inr (.inr (.inr o3)))
   rw[if_neg o0,if_neg o1,if_neg o32,if_neg o96,if_neg o97,if_neg o2,if_pos o3,if_neg o0,if_neg o1,if_neg o32,if_neg o96,if_neg o97,if_neg o2,if_pos o3]
   exact cp (2+x.k) 1 _ (by omega) (by omega) (by rw[zb4,if_pos k16,show 2+x.k=x.k+1+1 by omega]; rfl)
  rw[if_neg o0,if_neg o1,if_neg o32,if_neg o96,if_neg o97,if_neg o2,if_neg o3,if_neg o0,if_neg o1,if_neg o32,if_neg o96,if_neg o97,if_neg o2,if_neg o3]
  by_cases o132:x.op=132
  ·obtain⟨p1,p2⟩:=h.val 0 (by omega)
   have r:=zqP (v:=v) hi hv hvw p1
   rw[p2] at r
   simp only[o132,if_true]
   exact rk _ (negW t.a) r 0 3 _ (zku hi) (by omega) rfl
  by_cases o7:x.op=7
  ·simp only[o7,if_true]
   have h1:=cp 1 0 { t with x:=t.a } (by omega) (by omega) rfl
   obtain⟨p1,p2⟩:=h.val 0 (by omega)
   exact h1.set (.refl hi 0) p1 p2 (by omega) (by simp[pt,ht.2.2.1]) rfl
  by_cases o135:x.op=135
  ·simp only[o135,if_true]
   exact cp 0 1 _ (by omega) (by omega) rfl
  simp only[o132,o7,o135,if_false]
  exact h
end Go.Ev
/- A window's values, from its front to its end: plain laws. -/
namespace Go.Ev
open Go Go.RowKit
variable {L L':List Nd} {v:List Nat}
def divN(w:List In4)(n:Nat):Nat:=(w.take n).countP fun x=>decide (x.op=60)
theorem zeA(x:In4)(w:List In4)(n:Nat):divN (x::w) (n+1)=(if x.op=60 then 1 else 0)+divN w n:=by
 simp only[divN,List.take_succ_cons,List.countP_cons,decide_eq_true_eq]; omega
theorem zlg{op:Int}:(aluT op).2.1=true∧(aluT op).1=52↔op=60:=by
 constructor
 ·rintro⟨h1,h2⟩
  unfold aluT at h1 h2
  split at h1
  ·cases h1
  ·rename_i hn
   rw[if_neg hn] at h2
   split at h1
   ·rename_i hm
    rw[if_pos hm] at h2
    simp only at h2
    omega
   ·cases h1
 ·rintro rfl
  decide
theorem zv9:aluT 60=(52,true,true):=by decide
theorem zmB(s:VS)(x:In4):(zat s x).st=s.st++(if x.op=60 then [s.p.getD 1 0] else []):=by
 by_cases h:x.op=60
 ·have ht:(aluT x.op).2.2=true:=by rw[h]; decide
  rw[zat,if_pos ht,if_pos h]
  simp only[zlg.2 h,and_self,if_true]
 ·rw[if_neg h,List.append_nil,zat]
  split
  ·simp only[show¬((aluT x.op).2.1=true∧(aluT x.op).1=52) from fun h'=>h (zlg.1 h'),if_false]
  ·repeat (first|rfl|split)
theorem zsV{kind:Int}{a b:Nat}(hk:(doW kind 0 1).2=true)(h:(doW kind a b).2=false):kind=52∧b=0:=by
 unfold doW at hk h
 by_cases h52:kind=52
 ·subst h52
  refine⟨rfl,?_⟩
  by_cases hb:b=0
  ·exact hb
  ·simp[hb] at h
 ·exfalso
  repeat' split at h
  all_goals first|(cases h; done)|skip
  all_goals simp_all
theorem zo4{t:St}{x:In4}{d:Da}(hx:zaC x=true)(h:(zaw t x d).2=false):x.op=60∧t.x=0:=by
 rw[zaw] at h
 split at h
 ·rename_i ht
  simp only at h
  obtain⟨h1,h2⟩:=zsV (zlT ht) h
  cases hb:(aluT x.op).2.1 with
  | true =>
   rw[aluB,if_pos hb] at h2
   exact⟨zlg.1 ⟨hb,h1⟩,h2⟩
  | false =>
   exfalso
   rw[aluB,hb,if_neg (by simp)] at h2
   have:x.op=52:=by
    unfold aluT at h1 hb
    split at h1
    ·exact h1
    ·rename_i hn
     rw[if_neg hn] at hb
     split at h1
     ·rename_i hm
      rw[if_pos hm] at hb
      cases hb
     ·cases h1
   simp only[zaC,zbc,this,Bool.and_eq_true] at hx
   simp at hx
   omega
 ·cases h
theorem zxr{t:St}{x:In4}{d:Da}(h:(zaw t x d).2=true)(ho:x.op=60):t.x≠0:=by
 intro h0
 rw[zaw,if_pos (by rw[ho]; decide)] at h
 simp only[aluR,aluB,ho,zv9,if_true,h0] at h
 simp[doW] at h
theorem znj{s:VS}{x:In4}(hi:Inv s.L)(hp:s.p.length=18)(hk:x.k<4294967296):Ext s.L (zat s x).L 3∧(zat s x).p.length=18:=by
 have:=zob (L:=s.L) (s:=s) (k:=0) (n:=s.st.length) ⟨.refl hi 0,hp,Nat.le_refl _⟩ hk
 exact⟨this.ext,this.len⟩
theorem zo5:∀(w:List In4) {s:VS},Inv s.L→s.p.length=18→(∀ x∈w,x.k<4294967296)→Ext s.L (w.foldl zat s).L (3*w.length)∧(w.foldl zat s).p.length=18
 | [],s,hi,hp,_=>⟨.refl hi _,hp⟩
 | x::w,s,hi,hp,hk=>by
  obtain⟨e1,h1⟩:=znj hi hp (hk x (by simp))
  obtain⟨e2,h2⟩:=zo5 w (s:=zat s x) e1.inv h1 fun y hy=>hk y (by simp[hy])
  exact⟨(e1.trans e2).mono (by simp; omega),h2⟩
theorem zqw:∀(w:List In4) (s:VS),∃ new,(w.foldl zat s).st=s.st++new∧new.length=divN w w.length
 | [],s=>⟨[],by simp,by simp[divN]⟩
 | x::w,s=>by
  obtain⟨new,h1,h2⟩:=zqw w (zat s x)
  refine⟨(if x.op=60 then [s.p.getD 1 0] else [])++new,by rw[List.foldl_cons,h1,zmB,List.append_assoc],?_⟩
  rw[List.length_cons,zeA,List.length_append,h2]
  split<;>rfl
structure WV (v:List Nat) (L:List Nd) (p st:List Int) (w:List In4) (d:Da) (t:St):Prop where
 num:st.length=divN w w.length
 ahead:∀ i,i<divN w (runW d w t).2→∃ x n,st[i]?=some x∧hasI L x=true∧valI v L x=some n∧n≠0
 stop:(runW d w t).2<w.length→∃ x,st[divN w (runW d w t).2]?=some x∧hasI L x=true∧valI v L x=some 0
 done:(runW d w t).2=w.length→PV v L p (runW d w t).1
theorem znk{s0:St}{d:Da}(hs0:s0.ok)(hd:d.ok):∀(w:List In4) {s:VS} {t:St},Inv s.L→PV (asgL s0 d) s.L s.p t→t.ok→(∀ x∈w,x.k<4294967296)→(∀ x∈w,zaC x=true) →
  ∃ new,(w.foldl zat s).st=s.st++new∧WV (asgL s0 d) (w.foldl zat s).L (w.foldl zat s).p new w d t
 | [],s,t,hi,hp,ht,_,_=>⟨[],by simp,by simp[divN],fun i h=>by simp[divN] at h,fun h=>by simp[runW] at h,fun _=>hp⟩
 | x::w,s,t,hi,hp,ht,hk,hx=>by
  have hkx:=hk x (by simp)
  have hxx:=hx x (by simp)
  obtain⟨e1,h1⟩:=znj hi hp.len hkx
  have hkw:∀ y∈w,y.k<4294967296:=fun y hy=>hk y (by simp[hy])
  obtain⟨e2,h2⟩:=zo5 w (s:=zat s x) e1.inv h1 hkw
  have e:=e1.trans e2
  obtain⟨q1,q2⟩:=hp.val 1 (by omega)
  obtain⟨q3,q4⟩:=zez (v:=asgL s0 d) e q1
  rw[q2] at q4
  have hp1:(pt t).getD 1 0=t.x:=rfl
  rw[hp1] at q4
  rw[List.foldl_cons]
  cases hgo:(zaw t x d).2 with
  | true =>
   have hp':=zus hi hp hs0 hd ht hkx hxx hgo
   have ht':=zeo ht hkx hd
   obtain⟨new,n1,n2⟩:=znk hs0 hd w e1.inv hp' ht' hkw fun y hy=>hx y (by simp[hy])
   have hr:runW d (x::w) t=((runW d w (zaw t x d).1).1,(runW d w (zaw t x d).1).2+1):=by simp only[runW,hgo,if_true]
   obtain⟨m1,m2,m3,m4⟩:=n2
   refine⟨(if x.op=60 then [s.p.getD 1 0] else [])++new,by rw[n1,zmB,List.append_assoc],?_,?_,?_,?_⟩
   ·rw[List.length_cons,zeA,List.length_append,m1]
    split<;>rfl
   ·rw[hr]
    intro i hlt
    simp only[zeA] at hlt
    by_cases ho:x.op=60
    ·rw[if_pos ho] at hlt ⊢
     cases i with
     | zero=>exact⟨_,_,rfl,q3,q4,zxr hgo ho⟩
     | succ i =>
      obtain⟨y,n,a1,a2⟩:=m2 i (by omega)
      exact⟨y,n,by simpa using a1,a2⟩
    ·rw[if_neg ho] at hlt ⊢
     obtain⟨y,n,a1,a2⟩:=m2 i (by omega)
     exact⟨y,n,by simpa using a1,a2⟩
   ·rw[hr]
    intro hlt
    simp only[zeA,List.length_cons] at hlt ⊢
    obtain⟨y,a1,a2⟩:=m3 (by omega)
    refine⟨y,?_,a2⟩
    by_cases ho:x.op=60
    ·rw[if_pos ho,if_pos ho,Nat.add_comm]
     simpa using a1
    ·rw[if_neg ho,if_neg ho,Nat.zero_add]
     simpa using a1
   ·rw[hr]
    intro h
    simp only[List.length_cons] at h
    exact m4 (by omega)
  | false =>
   obtain⟨ho,h0⟩:=zo4 hxx hgo
   have hr:runW d (x::w) t=(t,0):=by simp only[runW,hgo,Bool.false_eq_true,if_false]
   obtain⟨new,n1,n2⟩:=zqw w (zat s x)
   refine⟨(if x.op=60 then [s.p.getD 1 0] else [])++new,by rw[n1,zmB,List.append_assoc],?_,?_,?_,?_⟩
   ·rw[List.length_cons,zeA,List.length_append,n2]
    split<;>rfl
   ·rw[hr]; intro i hlt; simp[divN] at hlt
   ·rw[hr]
    intro _
    rw[if_pos ho]
    exact⟨_,rfl,q3,by rw[q4,h0]⟩
   ·rw[hr]; intro h; simp at h
theorem zo6{s:St}{d:Da}(hs:s.ok){i:Nat}(hi:i<18):(asgL s d).getD i 0=(pt s).getD i 0:=by
 have hl:=hs.2.2.1
 have e:asgL s d=pt s++zaF d:=by simp[asgL,pt]
 rw[e,List.getD_eq_getElem?_getD,List.getD_eq_getElem?_getD,List.getElem?_append_left (by simp[pt,hl]; omega)]
theorem zut{s:St}{d:Da}(hi:Inv L)(hs:s.ok)(hd:d.ok):PV (asgL s d) (zaM L 18).L (zaM L 18).p s:=by
 have hv:=zle hs hd
 have hvw:=zqu hs hd
 have main:∀ n,n≤18→∀ i,i<n→hasI (zaM L n).L ((zaM L n).p.getD i 0)=true∧valI (asgL s d) (zaM L n).L ((zaM L n).p.getD i 0)=some ((pt s).getD i 0):=by
  intro n
  induction n with
  | zero=>intro _ i h; omega
  | succ n ih =>
   intro hn i hin
   have ok:=ze8 hi n
   rw[zgr,varV]
   simp only
   have r:=zmJ (v:=asgL s d) (i:=(n:Int)) ok.ext.inv hv hvw (by omega) (by omega)
   obtain⟨r1,r2⟩:=r.has
   by_cases h:i=n
   ·subst h
    rw[List.getD_eq_getElem?_getD,List.getElem?_set,if_pos rfl,if_pos (by rw[ok.len]; omega),Option.getD_some]
    refine⟨r1,?_⟩
    rw[r2,Int.toNat_natCast,←List.getD_eq_getElem?_getD,zo6 hs (by omega)]
   ·rw[List.getD_eq_getElem?_getD,List.getElem?_set,if_neg (by omega),←List.getD_eq_getElem?_getD]
    obtain⟨h1,h2⟩:=ih (by omega) i (by omega)
    obtain⟨h3,h4⟩:=zez (v:=asgL s d) (zfJ ok.ext.inv) h1
    exact⟨h3,by rw[h4,h2]⟩
 exact⟨(ze8 hi 18).len,fun i h=>main 18 (Nat.le_refl _) i h⟩
theorem ziN{s:St}{d:Da}{w:List In4}(hi:Inv L)(hs:s.ok)(hd:d.ok)(hk:∀ x∈w,x.k<4294967296)(hw:winB w=true):WV (asgL s d) (winV L w).L (winV L w).p (winV L w).st w d s:=by
 have hwp:∀ x∈w,zaC x=true:=by simp only[winB,Bool.and_eq_true,List.all_eq_true] at hw; exact hw.2
 obtain⟨new,h1,h2⟩:=znk hs hd w (ze8 hi 18).ext.inv (zut hi hs hd) hs hk hwp
 rw[zoc,List.nil_append] at h1
 rw[←h1] at h2
 exact h2
theorem WV.ext{p st:List Int}{w:List In4}{d:Da}{t:St}{k:Nat}(h:WV v L p st w d t)(e:Ext L L' k):WV v L' p st w d t:=by
 have tr:∀{x:Int} {o:Option Nat},hasI L x=true→valI v L x=o→hasI L' x=true∧valI v L' x=o:=fun a b=>by
  obtain⟨h3,h4⟩:=zez (v:=v) e a
  exact⟨h3,by rw[h4,b]⟩
 refine⟨h.num,fun i hi=>?_,fun hl=>?_,fun hl=>(h.done hl).same e⟩
 ·obtain⟨x,n,a,b,c,d⟩:=h.ahead i hi
  obtain⟨h1,h2⟩:=tr b c
  exact⟨x,n,a,h1,h2,d⟩
 ·obtain⟨x,a,b,c⟩:=h.stop hl
  obtain⟨h1,h2⟩:=tr b c
  exact⟨x,a,h1,h2⟩
end Go.Ev
/- WindowValues. -/
namespace Go.Ev
open Go Go.RowKit
variable {G:Tbl}
theorem cs_cl(s:St)(n:Nat):clL n s.cs=s.cs:=by simp[St.cs,clL,V.cl,zav,zac,Function.comp_def]
theorem zdU(d:Da)(n:Nat):clL n d.cs=d.cs:=by simp[Da.cs,clL,V.cl,zav,zac,Function.comp_def]
theorem ziO(s:St):s.cs.map V.nf1=s.cs:=by simp[St.cs,zac,Function.comp_def,V.nf1]
theorem zhd(d:Da):d.cs.map V.nf1=d.cs:=by simp[Da.cs,zac,Function.comp_def,V.nf1]
theorem zh9{s:St}(h:s.ok):s.cs.length=18:=by simp[St.cs,h.2.2.1]
theorem zkl{d:Da}(h:d.ok):d.cs.length=9:=by simp[Da.cs,h.2.2.2.1]
end Go.Ev
/- Whether two windows differ: decide.Differs, hurdleref18.Differs. -/
namespace Go.Ev
open Go Go.RowKit
variable {G:Tbl}
def zdH(live p:Nat):Bool:=live/2^p%2==1
def zcv(live:Nat)(x y:List Nat)(p:Nat):Bool:=zdH live p&&(x.getD p 0 !=y.getD p 0)
def zlU(live:Nat)(x y:List Nat):Bool:=(List.range 18).any (zcv live x y)
def zcw(v w:List In4)(live:Nat)(s:St)(d:Da):Bool :=
 if(runW d v s).2<v.length∨(runW d w s).2<w.length then !(decide ((runW d v s).2<v.length)&&decide ((runW d w s).2<w.length))
 else zlU live (asgL (runW d v s).1 d) (asgL (runW d w s).1 d)
theorem zrs[HasDecDf G](live p:Nat)(hl:live<4294967296)(hp:p≤31):FP G 307 [.int .u32 live,.int .i64 p] (.bool (zdH live p)):=by
 refine zak HasDecDf.h_decide_in (Nat.le_of_ble_eq_true rfl) ?_
 have h1:live/2^p<4294967296:=Nat.lt_of_le_of_lt (Nat.div_le_self _ _) hl
 have h2:(((live/2^p%2:Nat):Int)==1)=zdH live p:=by
  unfold zdH
  rw[Bool.eq_iff_iff,beq_iff_eq,beq_iff_eq]; omega
 have h3:((p:Int)<0)=False:=eq_false (by omega)
 simp(disch:=omega)[ziB,zu4 h1,h2,h3,-Int.natCast_ediv,-Int.natCast_emod,-Int.natCast_pow]
theorem zlV{live:Nat}{x y:List Nat}{i:Nat}(hi:i<18)(h:zcv live x y i=true):zlU live x y=true :=
 List.any_eq_true.2 ⟨i,List.mem_range.2 hi,h⟩
theorem znl{live:Nat}{x y:List Nat}(h:∀ j<18,zcv live x y j=false):zlU live x y=false:=by
 rw[zlU,List.any_eq_false]
 intro j hj
 rw[h j (List.mem_range.1 hj)]; decide
theorem zrt[HasWd G][HasNeg G][HasIns G][HasCheck G][HasData G][HasStep G][HasWRight G][HasWinRun G][HasWinAsg G][HasDecDf G](v w:List In4)(live:Nat)(s:St)(d:Da)(hf:v.length≤maxLen)(hg:w.length≤maxLen)
  (hk:∀ x∈v,x.k<4294967296) (hkw:∀ x∈w,x.k<4294967296) (hlv:live<4294967296) (hs:s.ok) (hd:d.ok) :
  FP G 308 [FL v,FL w,.int .u32 live,SV s,DV d] (.bool (winB v&&winB w&&zcw v w live s d)):=by
 refine zak HasDecDf.h_decide_Differs (Nat.le_of_ble_eq_true rfl) ?_
 have hrv:=zbW (G:=G) v hf hk
 have hrw:=zbW (G:=G) w hg hkw
 have sl:=zh9 hs
 have dl:=zkl hd
 have st:=List.take_of_length_le (i:=18) (l:=s.cs) (by omega)
 have dt:=List.take_of_length_le (i:=9) (l:=d.cs) (by omega)
 have sd:s.cs.drop 18=[]:=List.drop_eq_nil_of_le (by omega)
 have dd:d.cs.drop 9=[]:=List.drop_eq_nil_of_le (by omega)
 simp only[FL] at hrv hrw
 simp[FL,SV,DV]
 refine zab hrv ?_
 cases hv:winB v with
 | false=>simp
 | true =>
  simp
  refine zab hrw ?_
  cases hw:winB w with
  | false=>simp
  | true =>
   have ha:=zni (G:=G) v s d hf hk hs hd hv
   have hb:=zni (G:=G) w s d hg hkw hs hd hw
   have hos:=zey hd v s hs hk
   have hot:=zey hd w s hs hkw
   have hn1:=zex d v s
   have hn2:=zex d w s
   have hD:zcw v w live s d=zcw v w live s d:=rfl
   conv at hD=>rhs; unfold zcw
   obtain⟨A,hA⟩:∃ A,A=(runW d v s).1:=⟨_,rfl⟩
   obtain⟨n,hn⟩:∃ n,n=(runW d v s).2:=⟨_,rfl⟩
   obtain⟨B,hB⟩:∃ B,B=(runW d w s).1:=⟨_,rfl⟩
   obtain⟨m,hm⟩:∃ m,m=(runW d w s).2:=⟨_,rfl⟩
   rw[←hA,←hn] at ha
   rw[←hB,←hm] at hb
   rw[←hA,←hB,←hn,←hm] at hD
   rw[←hA] at hos
   rw[←hB] at hot
   rw[←hn] at hn1
   rw[←hm] at hn2
   rw[hD]
   have al:=zh9 hos
   have bl:=zh9 hot
   have at':=List.take_of_length_le (i:=18) (l:=A.cs) (by omega)
   have bt':=List.take_of_length_le (i:=18) (l:=B.cs) (by omega)
   have x1:=zjK (G:=G) A d hos hd
   have x2:=zjK (G:=G) B d hot hd
   have l1:(asgL A d).length=34:=by rw[←zmA hd]; exact zlf hos hd (by omega)
   have l2:(asgL B d).length=34:=by rw[←zmA hd]; exact zlf hot hd (by omega)
   obtain⟨X,hX⟩:∃ X,X=asgL A d:=⟨_,rfl⟩
   obtain⟨Y,hY⟩:∃ Y,Y=asgL B d:=⟨_,rfl⟩
   rw[←hX] at x1 l1
   rw[←hY] at x2 l2
   simp only[FL,SV,DV] at ha hb x1 x2
   simp[sl,dl,st,dt,sd,dd,al,bl,at',bt',cs_cl,zdU,ziO,zhd]
   refine zab ha ?_
   simp[sl,dl,st,dt,sd,dd,al,bl,at',bt',cs_cl,zdU,ziO,zhd]
   refine zab hb ?_
   have c1:((n:Int)<(v.length:Int))=(n<v.length):=propext (by omega)
   have c2:((m:Int)<(w.length:Int))=(m<w.length):=propext (by omega)
   simp[sl,dl,st,dt,sd,dd,al,bl,at',bt',cs_cl,zdU,ziO,zhd,zaa,c1,c2]
   by_cases e1:n<v.length
   ·by_cases e2:m<w.length
    ·simp[e1,e2]
    ·simp[e1,e2]
   by_cases e2:m<w.length
   ·simp[e1,e2]
   simp[e1,e2,sl,dl,st,dt,sd,dd,al,bl,at',bt',cs_cl,zdU,ziO,zhd,zaa]
   refine zab x1 ?_
   simp[sl,dl,st,dt,sd,dd,al,bl,at',bt',cs_cl,zdU,ziO,zhd,zaa]
   refine zab x2 ?_
   have xt:=List.take_of_length_le (i:=34) (l:=zac .u32 X) (by simp; omega)
   have yt:=List.take_of_length_le (i:=34) (l:=zac .u32 Y) (by simp; omega)
   have xd:(zac .u32 X).drop 34=[]:=List.drop_eq_nil_of_le (by simp; omega)
   have yd:(zac .u32 Y).drop 34=[]:=List.drop_eq_nil_of_le (by simp; omega)
   simp[sl,dl,st,dt,sd,dd,al,bl,at',bt',cs_cl,zdU,ziO,zhd,zaa,l1,l2,xt,yt,xd,yd]
   refine W_up 18 (fun i=>[(2,.int .u32 live),(17,.ptr 4 0),(18,.ptr 5 0),(63,.int .i64 i)])
    (fun i=>[some (.cells s.cs),some (.cells d.cs),some (.cells A.cs),some (.cells B.cs),some (.cells (zac .u32 X)),some (.cells (zac .u32 Y))]) (fun i=>∀ j<i,zcv live X Y j=false) ?_ ?_
   ·simp[zaa,zad,cs_cl,zdU]
   intro i hi hp
   by_cases hlt:i<18
   ·have hin:=zrs (G:=G) live i hlv (by omega)
    have g1:=zaT .u32 X i (by omega)
    have g2:=zaT .u32 Y i (by omega)
    have gx:X.getD i 0=X[i]'(by omega):=by simp[List.getD,List.getElem?_eq_getElem (show i<X.length by omega)]
    have gy:Y.getD i 0=Y[i]'(by omega):=by simp[List.getD,List.getElem?_eq_getElem (show i<Y.length by omega)]
    have hda:zcv live X Y i=zcv live X Y i:=rfl
    conv at hda=>rhs; rw[zcv,gx,gy]
    obtain⟨p,hpx⟩:∃ p,p=X[i]'(by omega):=⟨_,rfl⟩
    obtain⟨q,hqx⟩:∃ q,q=Y[i]'(by omega):=⟨_,rfl⟩
    rw[←hpx,←hqx] at hda
    rw[←hpx] at g1
    rw[←hqx] at g2
    simp(disch:=omega)[ltT,hlt]
    refine zab hin ?_
    cases hb:zdH live i with
    | false =>
     rw[hb,Bool.false_and] at hda
     have hp':∀ j<i+1,zcv live X Y j=false:=fun j hj=>by
      rcases Nat.lt_succ_iff_lt_or_eq.1 hj with h|rfl
      ·exact hp j h
      ·exact hda
     simp(disch:=omega)[ltT,hlt,zag,zaa,zad,cs_cl,zdU,-Int.natCast_add]
     exact hp'
    | true =>
     rw[hb,Bool.true_and] at hda
     by_cases hpq:p=q
     ·have hda':zcv live X Y i=false:=by rw[hda,hpq]; simp
      have hp':∀ j<i+1,zcv live X Y j=false:=fun j hj=>by
       rcases Nat.lt_succ_iff_lt_or_eq.1 hj with h|rfl
       ·exact hp j h
       ·exact hda'
      simp(disch:=omega)[ltT,leTn,hlt,l1,l2,g1,g2,hpq,zag,zaa,zad,cs_cl,zdU,-Int.natCast_add]
      exact hp'
     ·have hda':zcv live X Y i=true:=by rw[hda]; simp[hpq]
      have:=zlV hlt hda'
      simp(disch:=omega)[ltT,leTn,hlt,l1,l2,g1,g2,bneT (show(p:Int)≠q by omega),zaa,this,hpq,←hX,←hY]
   ·have hne:i=18:=by omega
    subst hne
    simp[znl hp,←hX,←hY]
end Go.Ev
/- Values as they were made, and in the book. -/
namespace Go.Ev
open Go Go.RowKit
variable {L L':List Nd} {v:List Nat}
structure MI (v:List Nat) (s:MS):Prop where
 inv:Inv s.L
 len:s.ids.length=s.made.length
 ok:mdOk s.made
 rel:∀(i:Nat) (x:Int) (a:Md) (o:Option Nat),s.ids[i]?=some x→s.made[i]?=some a→(refs v s.made)[i]?=some o →
  a.kind=4∧x=-1∧o=none∨a.kind≠4∧∃ n:Nat,x=n∧n<s.L.length∧valI v s.L n=o
theorem MI.there{s:MS}(h:MI v s){x:Int}(hx:zbS s.made x=true):∃ n m:Nat,x=n∧n<s.made.length∧atI s.ids x=m∧m<s.L.length∧valI v s.L m=(refs v s.made)[n]?.join:=by
 simp only[zbS,Bool.and_eq_true,decide_eq_true_eq] at hx
 obtain⟨⟨h0,h1⟩,h2⟩:=hx
 obtain⟨n,rfl⟩:=Int.eq_ofNat_of_zero_le h0
 have hn:n<s.made.length:=by omega
 obtain⟨a,ha⟩:∃ a,s.made[n]?=some a:=⟨_,zal hn⟩
 obtain⟨y,hy⟩:∃ y,s.ids[n]?=some y:=⟨_,zal (by rw[h.len]; exact hn)⟩
 obtain⟨o,ho⟩:∃ o,(refs v s.made)[n]?=some o:=⟨_,zal (by rw[zll]; exact hn)⟩
 rw[Int.toNat_natCast,ha] at h2
 simp at h2
 rcases h.rel n y a o hy ha ho with⟨h4,_⟩|⟨_,m,hm,hml,hv⟩
 ·exact absurd h4 h2
 ·refine⟨n,m,rfl,hn,?_,hml,?_⟩
  ·rw[atI,if_pos ⟨h0,by rw[h.len]; exact h1⟩,Int.toNat_natCast,hy,hm]; rfl
  ·rw[hv,ho]; rfl
theorem MI.not_there{s:MS}(h:MI v s){x:Int}(hx:zbS s.made x=false):hasI s.L (atI s.ids x)=false:=by
 rw[atI]
 split
 ·rename_i hr
  obtain⟨n,rfl⟩:=Int.eq_ofNat_of_zero_le hr.1
  have hn:n<s.made.length:=by rw[←h.len]; omega
  obtain⟨a,ha⟩:∃ a,s.made[n]?=some a:=⟨_,zal hn⟩
  obtain⟨y,hy⟩:∃ y,s.ids[n]?=some y:=⟨_,zal (by rw[h.len]; exact hn)⟩
  obtain⟨o,ho⟩:∃ o,(refs v s.made)[n]?=some o:=⟨_,zal (by rw[zll]; exact hn)⟩
  have h4:a.kind=4:=by
   have:a.kind≠4→zbS s.made n=true:=fun hk=>by simp only[zbS,Int.toNat_natCast,ha]; simp[hk,hn]
   by_cases hk:a.kind=4
   ·exact hk
   ·rw[this hk] at hx; cases hx
  rcases h.rel n y a o hy ha ho with⟨_,h5,_⟩|⟨h5,_⟩
  ·rw[Int.toNat_natCast,hy,h5]; rfl
  ·exact absurd h4 h5
 ·rfl
theorem zwa{kind x y:Int}(h:¬((doW kind 0 1).2=true∧hasI L x=true∧hasI L y=true)):bAlu L kind x y=(-1,L):=by rw[bAlu,if_neg h]
theorem MI.step{s:MS}(h:MI v s)(hv:v.length=34)(hvw:∀ c∈v,c<4294967296){a:Md}(hc:a.c<4294967296):MI v (zhw s a):=by
 have e:=zuI (s:=s) (a:=a) h.inv hc
 have hln:=h.len
 have rl:=zll (v:=v) s.made
 -- it is enough to look at the new one
 have main:∀ o:Option Nat,rval v (refs v s.made) (zbb s.made a)=o →
   ((zbb s.made a).kind=4∧(zcG s a).1=-1∧o=none∨(zbb s.made a).kind≠4∧Res v (zcG s a) o) →
   ((zbb s.made a).c<4294967296∧((zbb s.made a).kind=0∨(zbb s.made a).kind=1∧0≤(zbb s.made a).i∧(zbb s.made a).i<34∨(zbb s.made a).kind=2∧0≤(zbb s.made a).x∧(zbb s.made a).x<s.made.length∧0≤(zbb s.made a).y∧(zbb s.made a).y<s.made.length∨(zbb s.made a).kind=3∧0≤(zbb s.made a).x∧(zbb s.made a).x<s.made.length∨(zbb s.made a).kind=4)) →
   MI v (zhw s a):=fun o ho hr hm=>by
  refine⟨e.inv,by simp[zhw,hln],fun i b hb=>?_,fun i x b w hx hb hw=>?_⟩
  ·simp only[zhw] at hb
   by_cases hi:i<s.made.length
   ·rw[List.getElem?_append_left hi] at hb
    exact h.ok i b hb
   ·have hl:=(List.getElem?_eq_some_iff.1 hb).1
    simp at hl
    obtain rfl:i=s.made.length:=by omega
    simp at hb
    subst hb
    exact hm
  ·simp only[zhw] at hx hb hw ⊢
   rw[zth,ho] at hw
   by_cases hi:i<s.made.length
   ·rw[List.getElem?_append_left hi] at hb
    rw[List.getElem?_append_left (by omega)] at hx
    rw[List.getElem?_append_left (by omega)] at hw
    rcases h.rel i x b w hx hb hw with h1|⟨h1,n,h2,h3,h4⟩
    ·exact .inl h1
    ·exact .inr ⟨h1,n,h2,Nat.lt_of_lt_of_le h3 e.pre.length_le,by rw[←h4]; exact zek e h3⟩
   ·have hl:=(List.getElem?_eq_some_iff.1 hb).1
    simp at hl
    obtain rfl:i=s.made.length:=by omega
    simp at hb
    rw[List.getElem?_append_right (by omega),hln,Nat.sub_self] at hx
    rw[List.getElem?_append_right (by omega),rl,Nat.sub_self] at hw
    simp at hx hw
    subst hb; subst hx; subst hw
    rcases hr with h1|⟨h1,n,h2,h3,h4⟩
    ·exact .inl h1
    ·exact .inr ⟨h1,n,h2,h3,h4⟩
 have none4:zbb s.made a=noMd→(zcG s a).1=-1→MI v (zhw s a):=fun h1 h2=>by
  refine main none (by rw[h1]; rfl) (.inl ⟨by rw[h1]; rfl,h2,rfl⟩) ⟨by rw[h1]; exact(by decide:(0:Nat)<4294967296),by rw[h1]; exact .inr (.inr (.inr (.inr rfl)))⟩
 by_cases k0:a.kind=0
 ·have hn:zbb s.made a=⟨0,0,0,0,0,a.c⟩:=by rw[zbb,if_pos k0]
  have hR:zcG s a=putN s.L (zar (a.c::zae 34)):=by rw[zcG,if_pos k0]
  refine main (some a.c) (by rw[hn]; rfl) (.inr ⟨by rw[hn]; simp,by rw[hR]; exact zjX h.inv hv hc⟩) ⟨by rw[hn]; exact hc,by rw[hn]; exact .inl rfl⟩
 by_cases k1:a.kind=1
 ·have hR:zcG s a=varN s.L a.i:=by rw[zcG,if_neg k0,if_pos k1]
  by_cases hi:0≤a.i∧a.i<34
  ·have hn:zbb s.made a=⟨1,a.i,0,0,0,0⟩:=by rw[zbb,if_neg k0,if_pos ⟨k1,hi⟩]
   refine main (some (v[a.i.toNat]?.getD 0)) (by rw[hn]; rfl) (.inr ⟨by rw[hn]; simp,by rw[hR]; exact zmJ h.inv hv hvw hi.1 hi.2⟩) ⟨by rw[hn]; exact(by decide:(0:Nat)<4294967296),by rw[hn]; exact .inr (.inl ⟨rfl,hi⟩)⟩
  ·refine none4 ?_ (by rw[hR,varN,if_neg hi])
   rw[zbb,if_neg k0,if_neg (fun hh=>hi hh.2),if_neg (by omega),if_neg (by omega)]
 by_cases k2:a.kind=2
 ·have hR:zcG s a=bAlu s.L a.op (atI s.ids a.x) (atI s.ids a.y):=by rw[zcG,if_neg k0,if_neg k1,if_pos k2]
  by_cases hall:(doW a.op 0 1).2=true∧zbS s.made a.x=true∧zbS s.made a.y=true
  ·obtain⟨hk,hx,hy⟩:=hall
   have hn:zbb s.made a=⟨2,0,a.op,a.x,a.y,0⟩:=by rw[zbb,if_neg k0,if_neg (fun hh=>k1 hh.1),if_pos ⟨k2,hk,hx,hy⟩]
   obtain⟨nx,mx,ex,lx,ax,bx,vx⟩:=h.there hx
   obtain⟨ny,my,ey,ly,ay,b_y,vy⟩:=h.there hy
   have r:=zmI (v:=v) (kind:=a.op) (x:=atI s.ids a.x) (y:=atI s.ids a.y) h.inv hv hvw hk (by rw[ax]; simp[hasI]; exact bx) (by rw[ay]; simp[hasI]; exact b_y)
   rw[ax,ay,vx,vy] at r
   refine main (aluV a.op (refs v s.made)[nx]?.join (refs v s.made)[ny]?.join) ?_ (.inr ⟨by rw[hn]; simp,by rw[hR,ax,ay]; exact r⟩) ⟨by rw[hn]; exact(by decide:(0:Nat)<4294967296),by rw[hn]; exact .inr (.inr (.inl ⟨rfl,by simp; omega,by simp; omega,by simp; omega,by simp; omega⟩))⟩
   rw[hn,ex,ey]; rfl
  ·refine none4 ?_ ?_
   ·rw[zbb,if_neg k0,if_neg (fun hh=>k1 hh.1),if_neg (fun hh=>hall hh.2),if_neg (by omega)]
   ·rw[hR,zwa]
    rintro⟨g1,g2,g3⟩
    refine hall ⟨g1,?_,?_⟩
    ·cases e:zbS s.made a.x with
     | true=>rfl
     | false=>rw[h.not_there e] at g2; cases g2
    ·cases e:zbS s.made a.y with
     | true=>rfl
     | false=>rw[h.not_there e] at g3; cases g3
 by_cases k3:a.kind=3
 ·have hR:zcG s a=bNeg s.L (atI s.ids a.x):=by rw[zcG,if_neg k0,if_neg k1,if_neg k2,if_pos k3]
  cases hx:zbS s.made a.x with
  | true =>
   have hn:zbb s.made a=⟨3,0,0,a.x,0,0⟩:=by rw[zbb,if_neg k0,if_neg (fun hh=>k1 hh.1),if_neg (fun hh=>k2 hh.1),if_pos ⟨k3,hx⟩]
   obtain⟨nx,mx,ex,lx,ax,bx,vx⟩:=h.there hx
   have r:=zqP (v:=v) (x:=atI s.ids a.x) h.inv hv hvw (by rw[ax]; simp[hasI]; exact bx)
   rw[ax,vx] at r
   refine main (((refs v s.made)[nx]?.join).map negW) ?_ (.inr ⟨by rw[hn]; simp,by rw[hR,ax]; exact r⟩) ⟨by rw[hn]; exact(by decide:(0:Nat)<4294967296),by rw[hn]; exact .inr (.inr (.inr (.inl ⟨rfl,by simp; omega,by simp; omega⟩)))⟩
   rw[hn,ex]; rfl
  | false =>
   refine none4 ?_ ?_
   ·rw[zbb,if_neg k0,if_neg (fun hh=>k1 hh.1),if_neg (fun hh=>k2 hh.1),if_neg (by simp[hx])]
   ·rw[hR,bNeg,if_neg (by simp[h.not_there hx])]
 ·refine none4 ?_ ?_
  ·rw[zbb,if_neg k0,if_neg (fun hh=>k1 hh.1),if_neg (fun hh=>k2 hh.1),if_neg (fun hh=>k3 hh.1)]
  ·rw[zcG,if_neg k0,if_neg k1,if_neg k2,if_neg k3]
theorem MI.zero:MI v ⟨[],[],[]⟩:=⟨Inv.nil,rfl,fun i a h=>by simp at h,fun i x a o h=>by simp at h⟩
theorem MI.all(hv:v.length=34)(hvw:∀ c∈v,c<4294967296):∀(l:List Md) {s:MS},MI v s→(∀ a∈l,a.c<4294967296)→MI v (zwo s l)
 | [],_,h,_=>h
 | a::l,s,h,hc=>MI.all hv hvw l (h.step hv hvw (hc a (by simp))) fun x hx=>hc x (by simp[hx])
end Go.Ev
/- What tells two values zgx. -/
namespace Go.Ev
open Go Go.RowKit
variable {G:Tbl}
variable {H:Heap} {b z m:Nat} {L:List Nd}
def zlW(f g:List Nat):Option Nat:=(List.range 34).find? fun i=>decide (f.getD (i+1) 0≠g.getD (i+1) 0)
def zcx(f g:List Nat):List Nat×Bool:=if f.headD 0≠g.headD 0 then(zae 34,true) else match zlW f g with
 | some i=>((zae 34).set i 1,true)
 | none=>(zae 34,false)
theorem zru(f g:List Nat):(zcx f g).1.length=34:=by
 rw[zcx]; split
 ·simp
 ·split<;>simp
theorem zsW(f g:List Nat):∀ x∈(zcx f g).1,x<4294967296:=by
 rw[zcx]; split
 ·exact zby 34
 ·split
  ·intro x hx
   rcases List.mem_or_eq_of_mem_set hx with h|rfl
   ·exact zby 34 x h
   ·decide
  ·exact zby 34
theorem zsX[HasAffApart G](f g:List Nat)(hf:f.length=35)(hg:g.length=35):FP G 255 [.agg (zac .u32 f),.agg (zac .u32 g)] (.tup [.agg (zac .u32 (zcx f g).1),.bool (zcx f g).2]):=by
 refine zak HasAffApart.h_affine_Apart (Nat.le_of_ble_eq_true rfl) ?_
 obtain⟨c,t,rfl⟩:∃ c t,f=c::t:=by cases f with|nil=>simp at hf|cons c t=>exact⟨c,t,rfl⟩
 obtain⟨d,u,rfl⟩:∃ c t,g=c::t:=by cases g with|nil=>simp at hg|cons c t=>exact⟨c,t,rfl⟩
 have ht:t.length=34:=by simpa using hf
 have hu:u.length=34:=by simpa using hg
 have hc:zac .u32 (c::t)=.int .u32 (c:Int)::zac .u32 t:=rfl
 have hd:zac .u32 (d::u)=.int .u32 (d:Int)::zac .u32 u:=rfl
 have htt:=zai (k:=.u32) ht
 have htu:=zai (k:=.u32) hu
 have dr1:∀(i:Nat) (x:V) (l:List V),(x::l).drop (1+i)=l.drop i:=fun i x l=>by rw[Nat.add_comm,List.drop_succ_cons]
 have z0:(zac .u32 (zae 34)).drop 34=[]:=rfl
 by_cases hcd:c=d
 case neg =>
  have hn:((c:Int)==(d:Int))=false:=beqF (by omega)
  have hR:zcx (c::t) (d::u)=(zae 34,true):=by simp[zcx,hcd]
  simp[-List.reduceReplicate,hc,hd,ht,hu,htt,htu,hn,z0,hR,bneT,hcd]
 subst hcd
 have bne:((c:Int) !=(c:Int))=false:=by simp
 simp[-List.reduceReplicate,hc,hd,ht,hu,htt,htu,z0]
 refine W_up 34 (fun i=>[(3,.ptr 1 0),(4,.ptr 2 0),(6,.ptr 3 0),(16,.agg (zac .u32 t)),(17,.int .i64 i)])
  (fun i=>[some (.cells (.int .u32 (c:Int)::zac .u32 t)),some (.cells (.int .u32 (c:Int)::zac .u32 u)),some (.cells (zac .u32 (zae 34))),some (.cells (zac .u32 (zae 34)))]) (fun i=>∀ j,j<i→t.getD j 0=u.getD j 0) ?_ ?_
 ·simp[zaa,zad,clL,V.cl]
 intro i hi hp
 by_cases hlt:i<34
 ·have q1:=zdF .u32 (zal (show i<t.length by omega))
  have q2:=zdF .u32 (zal (show i<u.length by omega))
  have e1:t.getD i 0=t[i]'(by omega):=by rw[List.getD_eq_getElem?_getD,zal (by omega)]; rfl
  have e2:u.getD i 0=u[i]'(by omega):=by rw[List.getD_eq_getElem?_getD,zal (by omega)]; rfl
  by_cases he:t[i]'(by omega)=u[i]'(by omega)
  ·have hp':∀ j,j<i+1→t.getD j 0=u.getD j 0:=fun j hj=>by
    by_cases e:j=i
    ·subst e; rw[e1,e2,he]
    ·exact hp j (by omega)
   simp(disch:=omega)[ltT,ltF,leF,leFn,leTn,hlt,ht,hu,q1,q2,dr1,he,zag,-Int.natCast_add,zaa,zad,clL,V.cl]
   simpa using hp'
  ·have hb:((t[i]'(by omega):Nat):Int)≠((u[i]'(by omega):Nat):Int):=by omega
   have hfd:zlW (c::t) (c::u)=some i:=by
    rw[zlW,List.find?_range_eq_some]
    refine⟨?_,List.mem_range.2 hlt,fun j hj=>?_⟩
    ·simp only[List.getD_cons_succ,e1,e2]; simpa using he
    ·have:=hp j hj
     simp only[List.getD_cons_succ]; simpa using this
   have hR:zcx (c::t) (c::u)=((zae 34).set i 1,true):=by simp[zcx,hfd]
   have cs:=zbq .u32 (zae 34) i 1 (by simpa using hlt)
   have hts:(zac .u32 ((zae 34).set i 1)).take 34=zac .u32 ((zae 34).set i 1):=zai (by simp)
   simp(disch:=omega)[-List.reduceReplicate,ltT,ltF,leF,leFn,leTn,hlt,ht,hu,q1,q2,dr1,bneT hb,hR,z0]
   simp at cs
   simp(disch:=omega)[-List.reduceReplicate,cs,hts,z0,leTn,hlt]
 ·obtain rfl:i=34:=by omega
  have hfd:zlW (c::t) (c::u)=none:=by
   rw[zlW,List.find?_eq_none]
   intro j hj
   have:=hp j (List.mem_range.1 hj)
   simp only[List.getD_cons_succ]; simpa using this
  have hR:zcx (c::t) (c::u)=(zae 34,false):=by simp[zcx,hfd]
  simp[-List.reduceReplicate,hR,z0]
theorem zsY(M:List Int)(p:Int→Bool):∀ w∈asgn M p,w<4294967296:=by
 intro w hw
 simp only[asgn,List.mem_map] at hw
 obtain⟨i,_,rfl⟩:=hw
 split<;>omega
theorem zrv(fv gv:List Int)(ft gt:List Nat):(zcm fv gv ft gt).1.length=34:=by
 simp only[zcm]
 split
 ·split<;>simp[asgn]
 ·simp
theorem zsZ(fv gv:List Int)(ft gt:List Nat):∀ x∈(zcm fv gv ft gt).1,x<4294967296:=by
 simp only[zcm]
 split
 ·split
  ·exact zsY _ _
  ·exact zby 34
 ·exact zby 34
noncomputable def apN(a c:Nd):List Nat×Bool:=if a.kind=0∧c.kind=0 then zcx a.f c.f else match asB a,asB c with
 | some p,some q=>zcm p.1 q.1 p.2 q.2
 | _,_=>(zae 34,false)
noncomputable def apB(L:List Nd)(x y:Int):List Nat×Bool:=if hasI L x=true∧hasI L y=true∧x≠y then(match L[x.toNat]?,L[y.toNat]? with
 | some a,some c=>apN a c
 | _,_=>(zae 34,false)) else(zae 34,false)
theorem zqx(a c:Nd):(apN a c).1.length=34∧∀ x∈(apN a c).1,x<4294967296:=by
 rw[apN]
 split
 ·exact⟨zru _ _,zsW _ _⟩
 ·split
  ·exact⟨zrv _ _ _ _,zsZ _ _ _ _⟩
  ·exact⟨by simp,zby 34⟩
theorem zqy(L:List Nd)(x y:Int):(apB L x y).1.length=34∧∀ c∈(apB L x y).1,c<4294967296:=by
 rw[apB]
 split
 ·split
  ·exact zqx _ _
  ·exact⟨by simp,zby 34⟩
 ·exact⟨by simp,zby 34⟩
theorem zxs{x y:Nat}{a c:Nd}(hx:L[x]?=some a)(hy:L[y]?=some c)(hne:x≠y):apB L x y=apN a c:=by
 have h1:=(List.getElem?_eq_some_iff.1 hx).1
 have h2:=(List.getElem?_eq_some_iff.1 hy).1
 rw[apB,if_pos ⟨by simp[hasI]; exact h1,by simp[hasI]; exact h2,by omega⟩,Int.toNat_natCast,Int.toNat_natCast,hx,hy]
theorem zwb[HasAffApart G][HasAffine G][hA:HasBitsA G][HasSym G][HasSymApart G](x y:Int)(h:Bk H b z m L)(hi:Inv L):SF G 277 [.ptr b 0,.int .i64 x,.int .i64 y] H (.tup [.agg (zac .u32 (apB L x y).1),.bool (apB L x y).2]) H:=by
 haveI:HasBits G:=hA.toHasBits
 refine zbx HasSymApart.h_sym_Book_Apart (Nat.le_of_ble_eq_true rfl) ?_
 obtain⟨Z,hZ⟩:∃ Z,Z=zac .u32 (zae 34):=⟨_,rfl⟩
 have lZ:Z.length=34:=by rw[hZ]; simp
 have dZ:Z.drop 34=[]:=List.drop_eq_nil_of_le (by omega)
 have tZ:Z.take 34=Z:=List.take_of_length_le (by omega)
 have kZ:∀ n,clL n Z=Z:=fun n=>by rw[hZ]; simp
 have hRn:∀ n,Option.map (Blk.cl n) (some (.cells Z))=some (.cells Z):=fun n=>by simp[Blk.cl,kZ]
 have h2:Bk (H++[some (.cells Z),some (.cells Z)]) b z m L:=h.app fun n=>by simp[Blk.cl,kZ]
 have hs2:=h2.shut.self
 have hsh:=h.shut.back
 simp at hs2
 simp[←hZ,-List.reduceReplicate]
 refine zah (ze6 x h2) ?_
 cases hx:hasI L x with
 | false =>
  have hR:apB L x y=(zae 34,false):=by rw[apB,if_neg (by simp[hx])]
  simp[hR,←hZ,lZ,dZ,tZ,ap0,apk,set0,setk,hs2,hsh,kZ]
 | true =>
  simp[hs2]
  refine zah (ze6 y h2) ?_
  cases hy:hasI L y with
  | false =>
   have hR:apB L x y=(zae 34,false):=by rw[apB,if_neg (by simp[hy])]
   simp[hR,←hZ,lZ,dZ,tZ,ap0,apk,set0,setk,hs2,hsh,kZ]
  | true =>
   by_cases hxy:x=y
   ·subst hxy
    have hR:apB L x x=(zae 34,false):=by rw[apB,if_neg (by simp)]
    simp[hR,←hZ,lZ,dZ,tZ,ap0,apk,set0,setk,hs2,hsh,kZ]
   have hbe:(x==y)=false:=beqF hxy
   obtain⟨hx0,hx1⟩:0≤x∧x<L.length:=by simpa[hasI] using hx
   obtain⟨hy0,hy1⟩:0≤y∧y<L.length:=by simpa[hasI] using hy
   obtain⟨xn,rfl⟩:=Int.eq_ofNat_of_zero_le hx0
   obtain⟨yn,rfl⟩:=Int.eq_ofNat_of_zero_le hy0
   obtain⟨a,ha⟩:∃ a,L[xn]?=some a:=⟨_,zal (by omega)⟩
   obtain⟨c,hc⟩:∃ c,L[yn]?=some c:=⟨_,zal (by omega)⟩
   have hga:=hi.good _ _ ha
   have hgc:=hi.good _ _ hc
   have hR:apB L xn yn=apN a c:=zxs ha hc (fun e=>hxy (by rw[e]))
   have hRl:=zqx a c
   rw[hR]
   have hd35:(zac .u32 (zae 35)).drop 35=[]:=rfl
   have ta:=zai (k:=.u32) hga.1.1
   have tc:=zai (k:=.u32) hgc.1.1
   have hb':∀ r:Heap,(∀ n,r.map (Option.map (Blk.cl n))=r)→Bk (H++some (.cells Z)::some (.cells Z)::r) b z m L:=fun r hr=>h.app fun n=>by simp[Blk.cl,kZ,hr n]
   have hs':∀ r:Heap,(∀ n,r.map (Option.map (Blk.cl n))=r)→zad (H.length+(r.length+1+1)) (H++some (.cells Z)::some (.cells Z)::r)=H++some (.cells Z)::some (.cells Z)::r:=fun r hr=>by
    have:=(hb' r hr).shut.self
    simpa using this
   simp[hbe,hxy,hs2,-List.reduceReplicate]
   refine zah (zfV xn a (hb' [none] fun n=>by simp) ha) ?_
   have s1:=hs' [some (.cells (zac .u32 a.f))] fun n=>by simp[Blk.cl]
   simp at s1
   simp[hga.1.1,ta,hd35,ap0,apk,set0,setk,s1]
   refine zah (zfV yn c (hb' [some (.cells (zac .u32 a.f)),none] fun n=>by simp[Blk.cl]) hc) ?_
   have s2:=hs' [some (.cells (zac .u32 a.f)),some (.cells (zac .u32 c.f))] fun n=>by simp[Blk.cl]
   simp at s2
   simp[hga.1.1,ta,hgc.1.1,tc,hd35,ap0,apk,set0,setk,s2]
   obtain⟨A,hA'⟩:∃ A,A=apN a c:=⟨_,rfl⟩
   rw[←hA'] at hRl ⊢
   have tA:=zai (k:=.u32) hRl.1
   by_cases hk:a.kind=0∧c.kind=0
   ·have hAe:A=zcx a.f c.f:=by rw[hA',apN,if_pos hk]
    have hf:=zsX (G:=G) a.f c.f hga.1.1 hgc.1.1
    rw[←hAe] at hf
    simp[hk.1,hk.2,hga.1.1,ta,hgc.1.1,tc,hd35,ap0,apk,set0,setk,s2]
    refine zab hf ?_
    simp[hRl.1,tA,lZ,dZ,ap0,apk,set0,setk,hsh]
   ·have hkb:(decide (a.kind=0)&&decide (c.kind=0))=false:=by
     rw[Bool.and_eq_false_iff]
     by_cases h1:a.kind=0
     ·right; simpa using fun h2=>hk ⟨h1,h2⟩
     ·left; simpa using h1
    have b1:=hb' [some (.cells (zac .u32 a.f)),some (.cells (zac .u32 c.f)),none] fun n=>by simp[Blk.cl]
    have b2:=hb' [some (.cells (zac .u32 a.f)),some (.cells (zac .u32 c.f)),some (.cells (asBC (asB a))),none] fun n=>by simp[Blk.cl,zgC]
    have s3:=hs' [some (.cells (zac .u32 a.f)),some (.cells (zac .u32 c.f)),some (.cells (asBC (asB a)))] fun n=>by simp[Blk.cl,zgC]
    have s4:=hs' [some (.cells (zac .u32 a.f)),some (.cells (zac .u32 c.f)),some (.cells (asBC (asB a))),some (.cells (asBC (asB c)))] fun n=>by simp[Blk.cl,zgC]
    simp at s3 s4
    have fin:∀(p q:Option (List Int×List Nat)),asB a=p→asB c=q→(p.isSome=true→q.isSome=true→∃ p' q',p=some p'∧q=some q'∧A=zcm p'.1 q'.1 p'.2 q'.2)∧((p.isSome&&q.isSome)=false→A=(zae 34,false)):=fun p q ep eq=>by
     have hAe:=hA'
     rw[apN,if_neg hk,ep,eq] at hAe
     cases p<;>cases q<;>simp at hAe ⊢<;>exact hAe
    by_cases h1:a.kind=0
    ·have h2:¬c.kind=0:=fun h2=>hk ⟨h1,h2⟩
     simp[h1,hga.1.1,ta,hgc.1.1,tc,hd35,ap0,apk,set0,setk,s2]
     simp[h2,ap0,apk,set0,setk]
     refine zah (zcO xn a b1 ha hga.2.1) ?_
     simp[zgB,zdZ,zgD,ap0,apk,set0,setk,s3]
     refine zah (zcO yn c b2 hc hgc.2.1) ?_
     simp[zgB,zdZ,zgD,ap0,apk,set0,setk,s4]
     cases ea:asB a with
     | none =>
      have hAe:=(fin _ _ ea rfl).2 rfl
      simp[hAe,←hZ,lZ,dZ,tZ,ap0,apk,set0,setk,hsh,kZ]
     | some p =>
      cases ec:asB c with
      | none =>
       have hAe:=(fin _ _ ea ec).2 rfl
       simp[hAe,←hZ,lZ,dZ,tZ,ap0,apk,set0,setk,hsh,kZ]
      | some q =>
       obtain⟨_,_,e1,e2,hAe⟩:=(fin _ _ ea ec).1 rfl rfl
       cases e1; cases e2
       obtain⟨hp,hpw⟩:=zdk hga.2.1 ea
       obtain⟨hq,hqw⟩:=zdk hgc.2.1 ec
       have l1:=hp.1
       have l2:=hq.1
       have l3:=zca l1 hp.2.1
       have l4:=zca l2 hq.2.1
       have hap:=zn2 hA p.1 q.1 p.2 q.2 (by omega) (by omega) (by omega) (by omega) hpw hqw
       rw[←hAe] at hap
       simp only[FV] at hap
       simp[asBC,ap0,apk,set0,setk]
       refine zab hap ?_
       simp[hRl.1,tA,lZ,dZ,ap0,apk,set0,setk,hsh]
    ·simp[h1,hga.1.1,ta,hgc.1.1,tc,hd35,ap0,apk,set0,setk,s2]
     refine zah (zcO xn a b1 ha hga.2.1) ?_
     simp[zgB,zdZ,zgD,ap0,apk,set0,setk,s3]
     refine zah (zcO yn c b2 hc hgc.2.1) ?_
     simp[zgB,zdZ,zgD,ap0,apk,set0,setk,s4]
     cases ea:asB a with
     | none =>
      have hAe:=(fin _ _ ea rfl).2 rfl
      simp[hAe,←hZ,lZ,dZ,tZ,ap0,apk,set0,setk,hsh,kZ]
     | some p =>
      cases ec:asB c with
      | none =>
       have hAe:=(fin _ _ ea ec).2 rfl
       simp[hAe,←hZ,lZ,dZ,tZ,ap0,apk,set0,setk,hsh,kZ]
      | some q =>
       obtain⟨_,_,e1,e2,hAe⟩:=(fin _ _ ea ec).1 rfl rfl
       cases e1; cases e2
       obtain⟨hp,hpw⟩:=zdk hga.2.1 ea
       obtain⟨hq,hqw⟩:=zdk hgc.2.1 ec
       have l1:=hp.1
       have l2:=hq.1
       have l3:=zca l1 hp.2.1
       have l4:=zca l2 hq.2.1
       have hap:=zn2 hA p.1 q.1 p.2 q.2 (by omega) (by omega) (by omega) (by omega) hpw hqw
       rw[←hAe] at hap
       simp only[FV] at hap
       simp[asBC,ap0,apk,set0,setk]
       refine zab hap ?_
       simp[hRl.1,tA,lZ,dZ,ap0,apk,set0,setk,hsh]
end Go.Ev
/- Values of sums and of bits are told zgx wherever they are not one: plain laws. -/
namespace Go.Ev
open Go Go.RowKit
variable {L L' L'':List Nd}
def Nd.pl(a:Nd):Prop:=(a.kind=0→a=zar a.f)∧(a.kind=1→∃ fv ft,a=zcn fv ft∧Right fv ft∧fv≠[]∧∀ i,fv=[i]→ft≠[0,ones]∧ft≠[ones,0])
def Grow(L L':List Nd):Prop:=∀ a∈L',a∈L∨a.pl
theorem Grow.refl:Grow L L:=fun a h=>.inl h
theorem Grow.trans(h:Grow L L')(k:Grow L' L''):Grow L L'':=fun a ha=>by
 rcases k a ha with h1|h1
 ·exact h a h1
 ·exact .inr h1
def Pl(L:List Nd):Prop:=∀ a∈L,a.pl
theorem Pl.nil:Pl []:=fun a h=>by cases h
theorem Inv.inj(h:Inv L){x y:Nat}{a:Nd}(hx:L[x]?=some a)(hy:L[y]?=some a):x=y:=by
 obtain⟨h1,e1⟩:=List.getElem?_eq_some_iff.1 hx
 obtain⟨h2,e2⟩:=List.getElem?_eq_some_iff.1 hy
 have hp:=List.pairwise_iff_getElem.1 h.one
 rcases Nat.lt_trichotomy x y with hl|hl|hl
 ·exact absurd (e1.trans e2.symm) (hp x y h1 h2 hl)
 ·exact hl
 ·exact absurd (e2.trans e1.symm) (hp y x h2 h1 hl)
/-! Which numbers are sums, and which are bits of some variables. -/
def zhv(L:List Nd)(x:Int):Prop:=∃(n:Nat) (a:Nd),x=n∧L[n]?=some a∧a.kind=0
def ze3(L:List Nd)(x:Int)(P:Int→Prop):Prop:=∃(n:Nat) (a:Nd) (p:List Int×List Nat),x=n∧L[n]?=some a∧asB a=some p∧∀ v∈p.1,P v
theorem zhv.pre{x:Int}(h:zhv L x)(e:L <+: L'):zhv L' x:=by obtain⟨n,a,h1,h2,h3⟩:=h; exact⟨n,a,h1,zgE e h2,h3⟩
theorem ze3.pre{x:Int}{P:Int→Prop}(h:ze3 L x P)(e:L <+: L'):ze3 L' x P:=by obtain⟨n,a,p,h1,h2,h3⟩:=h; exact⟨n,a,p,h1,zgE e h2,h3⟩
theorem ze3.mono{x:Int}{P Q:Int→Prop}(h:ze3 L x P)(k:∀ v,P v→Q v):ze3 L x Q:=by obtain⟨n,a,p,h1,h2,h3,h4⟩:=h; exact⟨n,a,p,h1,h2,h3,fun v hv=>k v (h4 v hv)⟩
theorem zhv.has{x:Int}(h:zhv L x):hasI L x=true:=by obtain⟨n,a,rfl,h2,_⟩:=h; simp[hasI]; exact(List.getElem?_eq_some_iff.1 h2).1
theorem ze3.has{x:Int}{P:Int→Prop}(h:ze3 L x P):hasI L x=true:=by obtain⟨n,a,p,rfl,h2,_⟩:=h; simp[hasI]; exact(List.getElem?_eq_some_iff.1 h2).1
end Go.Ev
/- Where a filter is gone to: splice.targets, hurdleref22.jumps. -/
namespace Go.Ev
open Go Go.RowKit
variable {G:Tbl}
def zdY(x:In4)(j i:Nat):Bool:=if x.op=5 then decide (j+1+x.k=i) else isBr x.op&&(decide (j+1+x.jt.toNat=i)||decide (j+1+x.jf.toNat=i))
def hitB(f:List In4)(m i:Nat):Bool:=(List.range m).any fun j=>zdY (f.getD j RET) j i
def hits(f:List In4)(m:Nat):List Bool:=(List.range f.length).map (hitB f m)
theorem ziP(f:List In4)(m:Nat):(hits f m).length=f.length:=by simp[hits]
theorem zjL(f:List In4)(m i:Nat):hitB f (m+1) i=(hitB f m i||zdY (f.getD m RET) m i):=by simp[hitB,List.range_succ,List.any_append]
theorem zfH(f:List In4)(m i:Nat)(h:i<f.length):(hits f m)[i]?=some (hitB f m i):=by simp[hits,h]
theorem zlh(f:List In4)(m:Nat)(l:List Bool)(hl:l.length=f.length)(h:∀ i,i<f.length→l[i]?=some (hitB f (m+1) i)):l=hits f (m+1):=by
 refine List.ext_getElem? fun i=>?_
 by_cases hi:i<f.length
 ·rw[h i hi,zfH _ _ _ hi]
 ·rw[List.getElem?_eq_none (by omega),List.getElem?_eq_none (by rw[ziP]; omega)]
theorem zjM:∀ l:List Bool,zbj 1 l.length (cb l)=zbi l
 | []=>rfl
 | x::l=>by
  have:=zjM l
  simp only[cb] at this
  simp[zbj,cb,zbi,this]
theorem zlX[HasIns G][HasSpl G](f:List In4)(hs:zap f=true)(hk:∀ x∈f,x.k<4294967296):FP G 204 [FL f] (.vs (zbi (hits f f.length)) .no):=by
 refine zak HasSpl.h_splice_targets (Nat.le_of_ble_eq_true rfl) ?_
 have hl:f.length≤4096:=by simp only[zap,Bool.and_eq_true,decide_eq_true_eq] at hs; exact hs.1.1
 simp(disch:=omega)[FL,leTn]
 refine W_up f.length (fun m=>[(3,.rs 0 0 f.length 1),(9,FL f),(10,.int .i64 f.length),(11,.int .i64 m)]) (fun m=>[some (.cells (cb (hits f m)))]) (fun _=>True) ?_ ?_
 ·have:hits f 0=List.replicate f.length false:=by
   refine List.ext_getElem? fun i=>?_
   by_cases hi:i<f.length
   ·rw[zfH _ _ _ hi,List.getElem?_replicate_of_lt hi]; rfl
   ·rw[List.getElem?_eq_none (by rw[ziP]; omega),List.getElem?_eq_none (by simp; omega)]
  simp[zaa,zad,FL,this]
 intro m hm _
 have hhl:=ziP f m
 by_cases hlt:m<f.length
 ·obtain⟨x,hfx⟩:∃ x,x=f[m]:=⟨_,rfl⟩
  have hgg:=zbg hlt
  rw[←hfx] at hgg
  have hfx:=hfx.symm
  have hg:f[m]?=some x:=by rw[List.getElem?_eq_getElem hlt,hfx]
  have hD:f.getD m RET=x:=by rw[List.getD,hg]; rfl
  have hkk:=hk x (hfx▸List.getElem_mem hlt)
  have hbr:=zcc (G:=G) x
  have hcs:x.cs=[.int .i64 x.op,.int .i64 x.jt,.int .i64 x.jf,.int .u32 (x.k:Int)]:=rfl
  simp[IV,hcs] at hbr
  have hbo:=ziM hs hg
  have hofs:=fun o=>zcW (o:=o) hs hg
  have a3:addI .i64 (m:Int) 1=((m+1:Nat):Int):=zag (by omega)
  have hc:=zfL x.k hkk
  simp(disch:=omega)[FL,ltT,hgg,hfx,hcs]
  by_cases h5:x.op=5
  ·have b5:(x.op==5)=true:=by simp[h5]
   have hnb:isBr x.op=false:=by rw[h5]; decide
   have hof:=hofs x.k (by simp[offs,h5,show zay 5=false by decide])
   have a4:addI .i64 ((m+1:Nat):Int) (x.k:Int)=((m+1+x.k:Nat):Int):=addN (by omega)
   have hst:=zlR (hits f m) (m+1+x.k) true (by omega)
   have hnew:(hits f m).set (m+1+x.k) true=hits f (m+1):=by
    refine zlh f m _ (by simp[hhl]) fun i hi=>?_
    rw[List.getElem?_set,zfH _ _ _ hi,zjL,hD]
    by_cases he:m+1+x.k=i
    ·subst he; simp[zdY,h5,hhl,hi]
    ·simp[zdY,h5,he]
   rw[hnb] at hbr
   rw[hnew] at hst
   simp(disch:=omega)[b5,a3,a4,hc,hhl,ltTn,leTn,hst,-Int.natCast_add]
   refine zab hbr ?_
   simp(disch:=omega)[hlt,zag,zaa,zad,FL,-Int.natCast_add]
  ·have b5:(x.op==5)=false:=beqF h5
   simp(disch:=omega)[b5,-Int.natCast_add]
   refine zab hbr ?_
   cases hbx:isBr x.op
   ·have hnew:hits f m=hits f (m+1):=by
     refine zlh f m _ hhl fun i hi=>?_
     rw[zfH _ _ _ hi,zjL,hD]
     simp[zdY,h5,hbx]
    rw[hnew]
    simp(disch:=omega)[hlt,zag,zaa,zad,FL,-Int.natCast_add]
   ·obtain⟨b1,b2,b3,b4⟩:=hbo hbx
    have hne:zay x.op=false:=by
     have key:∀ p∈[21,37,53,69,29,45,61,(77:Int)],zay p=false:=by decide
     exact key _ (by simpa[isBr] using hbx)
    have ho1:=hofs x.jt.toNat (by simp[offs,hne,h5,hbx])
    have ho2:=hofs x.jf.toNat (by simp[offs,hne,h5,hbx])
    have a4:addI .i64 ((m+1:Nat):Int) x.jt=((m+1+x.jt.toNat:Nat):Int):=by rw[zaE]<;>omega
    have a5:addI .i64 ((m+1:Nat):Int) x.jf=((m+1+x.jf.toNat:Nat):Int):=by rw[zaE]<;>omega
    have hst:=zlR (hits f m) (m+1+x.jt.toNat) true (by omega)
    have hst2:=zlR ((hits f m).set (m+1+x.jt.toNat) true) (m+1+x.jf.toNat) true (by rw[List.length_set]; omega)
    have hnew:((hits f m).set (m+1+x.jt.toNat) true).set (m+1+x.jf.toNat) true=hits f (m+1):=by
     refine zlh f m _ (by simp[hhl]) fun i hi=>?_
     rw[List.getElem?_set,List.getElem?_set,zfH _ _ _ hi,zjL,hD]
     by_cases he:m+1+x.jt.toNat=i<;>by_cases he2:m+1+x.jf.toNat=i<;>simp[zdY,h5,hbx,he,he2,hhl,hi]
    rw[hnew] at hst2
    simp(maxSteps:=20000) (disch:=omega)[a3,a4,a5,hhl,-Int.natCast_add]
    simp[ho1,ho2,hhl,-Int.natCast_add]
    simp(disch:=omega)[hhl,leTn,hst,hst2,-Int.natCast_add]
    simp[ho2,-Int.natCast_add]
    simp(disch:=omega)[hhl,leTn,hst2,-Int.natCast_add]
    simp(disch:=omega)[hlt,zag,zaa,zad,FL,-Int.natCast_add]
 ·have hne:m=f.length:=by omega
  subst hne
  have hch:zbj 1 f.length (cb (hits f f.length))=zbi (hits f f.length):=by
   have h:=zjM (hits f f.length)
   rw[hhl] at h; exact h
  simp(disch:=omega)[hhl,leTn,hch]
end Go.Ev
/- What was made as a sum, or as bits, is one in the book. -/
namespace Go.Ev
open Go Go.RowKit
variable {G:Tbl}
variable {L L':List Nd} {l:List Md}
inductive How (s:MS) (a:Md):Md→Int×List Nd→Prop
 | none {b p}:b.kind=4→How s a b p
 | con {b}:b.kind=0→b.c=a.c→How s a b (putN s.L (zar (a.c::zae 34)))
 | var {b}:b.kind=1→0≤b.i→b.i<34→How s a b (varN s.L b.i)
 | alu {b}:b.kind=2→(doW b.op 0 1).2=true→zbS s.made b.x=true→zbS s.made b.y=true→How s a b (bAlu s.L b.op (atI s.ids b.x) (atI s.ids b.y))
 | neg {b}:b.kind=3→zbS s.made b.x=true→How s a b (bNeg s.L (atI s.ids b.x))
theorem zhv.back{n:Nat}(h:zhv L' n)(e:L <+: L')(hn:n<L.length):zhv L n:=by
 obtain⟨m,a,h1,h2,h3⟩:=h
 obtain rfl:n=m:=by omega
 have:=zgE e (zal hn)
 rw[h2] at this
 cases this
 exact⟨n,_,rfl,zal hn,h3⟩
theorem ze3.back{n:Nat}{P:Int→Prop}(h:ze3 L' n P)(e:L <+: L')(hn:n<L.length):ze3 L n P:=by
 obtain⟨m,a,p,h1,h2,h3⟩:=h
 obtain rfl:n=m:=by omega
 have:=zgE e (zal hn)
 rw[h2] at this
 cases this
 exact⟨n,_,p,rfl,zal hn,h3⟩
theorem ahead{s f:MS}{i:Nat}{x:Int}(hM:MI (zae 34) s)(e1:s.ids=f.ids.take i)(e2:s.made=f.made.take i)(hx:zbS s.made x=true) :
  ∃ n m:Nat,∃ c,x=n∧n<i∧f.made[n]?=some c∧c.kind≠4∧f.ids[n]?=some (m:Int)∧atI s.ids x=m∧m<s.L.length:=by
 obtain⟨n,m,h1,h2,h3,h4,_⟩:=hM.there hx
 have hni:n<i:=by rw[e2,List.length_take] at h2; omega
 obtain⟨c,hcc⟩:∃ c,s.made[n]?=some c:=⟨_,zal h2⟩
 obtain⟨y,hy⟩:∃ y,s.ids[n]?=some y:=⟨_,zal (by rw[hM.len]; exact h2)⟩
 have hym:y=m:=by
  rw[atI,h1,if_pos ⟨by omega,by rw[hM.len]; omega⟩,Int.toNat_natCast,hy] at h3
  exact h3
 subst h1
 refine⟨n,m,c,rfl,hni,?_,?_,?_,h3,h4⟩
 ·rw[e2,List.getElem?_take,if_pos hni] at hcc; exact hcc
 ·simp only[zbS,Int.toNat_natCast,hcc,Bool.and_eq_true,decide_eq_true_eq] at hx; exact hx.2
 ·rw[e1,List.getElem?_take,if_pos hni,hym] at hy; exact hy
end Go.Ev
