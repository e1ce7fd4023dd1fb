/- What is needed at each place: live.nexts, live.At, live.Behind. -/
import Derived.Test.YtogjnjnabikdpaaGreatDoorCheckBW
import Derived.Test.YtogjnjnabikdpaaGreatDoorEvXW
import Derived.Test.YtogjnjnabikdpaaGreatDoorEvInsCW
import Derived.Test.YtogjnjnabikdpaaGreatDoorSymJW
set_option linter.unusedSimpArgs false
set_option linter.unusedVariables false
set_option maxHeartbeats 4000000
set_option maxRecDepth 10000
namespace Go.Ev
open Go Go.RowKit
variable {G:Tbl}
def offs(x:In4):List Nat:=if zax x.op then [] else if x.op=5 then [x.k] else if isBr x.op then [x.jt.toNat,x.jf.toNat] else [0]
def ndL(p:Nat):List In4→List Bool
 | []=>[]
 | x::f=>(zbw x p||((offs x).any (fun o=>(ndL p f).getD o false)&&!zca x p))::ndL p f
def nd(f:List In4)(p:Nat):Bool:=(ndL p f).headD false
theorem zo7(p:Nat):∀(f:List In4) (i:Nat),ndL p (f.drop i)=(ndL p f).drop i
 | f,0=>rfl
 | [],i+1=>by simp[ndL]
 | x::f,i+1=>by simp only[List.drop_succ_cons,ndL]; exact zo7 p f i
theorem zxB(p:Nat)(f:List In4)(o:Nat):(ndL p f).getD o false=nd (f.drop o) p:=by
 unfold nd
 rw[zo7,List.headD_eq_head?_getD,List.head?_drop]; rfl
theorem zwm(x:In4)(f:List In4)(p:Nat):nd (x::f) p=(zbw x p||((offs x).any (fun o=>nd (f.drop o) p)&&!zca x p)):=by
 simp only[nd,ndL,List.headD_cons]
 congr 2
 congr 1
 funext o
 exact zxB p f o
def wd(f:List In4):Nat:=zat (nd f) 18
def zc0:List In4→List Nat
 | []=>[]
 | x::f=>wd (x::f)::zc0 f
theorem zfm:∀ f:List In4,(zc0 f).length=f.length
 | []=>rfl
 | x::f=>by simp[zc0,zfm f]
theorem zj5:∀(f:List In4) (i:Nat),i<f.length→(zc0 f)[i]?=some (wd (f.drop i))
 | x::f,0,_=>rfl
 | x::f,i+1,h=>by
  simp only[zc0,List.getElem?_cons_succ,List.drop_succ_cons]
  exact zj5 f i (by simpa using h)
def bh(g:List In4)(os:List Nat)(p:Nat):Bool:=os.any fun o=>nd (g.drop o) p
theorem zqz(a b:Nat→Bool):∀ n,zat a n ||| zat b n=zat (fun p=>a p||b p) n:=by
 intro n
 refine Nat.eq_of_testBit_eq fun i=>?_
 rw[Nat.testBit_or,zb0,zb0,zb0]
 cases decide (i<n)<;>simp
theorem zje:∀ n,zat (fun _=>false) n=0
 | 0=>rfl
 | n+1=>by simp[zat,zje n]
theorem zqA(g:List In4)(os:List Nat)(o:Nat):zat (bh g os) 18 ||| wd (g.drop o)=zat (bh g (os++[o])) 18:=by
 rw[wd,zqz]
 congr 1
 funext p
 simp[bh]
theorem zwn(x:In4)(g:List In4):zat (fun p=>zbw x p||(bh g (offs x) p&&!zca x p)) 18=wd (x::g):=by
 unfold wd
 congr 1
 funext p
 rw[zwm]; rfl
theorem zsT(a b:Nat→Bool)(n:Nat)(hn:n≤32):zkt .u32 ((zat a n:Nat):Int) ((zat b n:Nat):Int)=((zat (fun p=>a p&&!b p) n:Nat):Int):=by
 have ha:zat a n<2^32:=Nat.lt_of_lt_of_le (zbi a n) (Nat.pow_le_pow_right (by decide) hn)
 have hb:zat b n<2^32:=Nat.lt_of_lt_of_le (zbi b n) (Nat.pow_le_pow_right (by decide) hn)
 unfold zkt
 rw[za0,za0]
 have:(BitVec.ofNat 32 (zat a n) &&& ~~~BitVec.ofNat 32 (zat b n)).toNat=zat (fun p=>a p&&!b p) n:=by
  refine Nat.eq_of_testBit_eq fun i=>?_
  rw[BitVec.testBit_toNat,BitVec.getLsbD_and,BitVec.getLsbD_not,BitVec.getLsbD_ofNat,BitVec.getLsbD_ofNat,zb0,zb0,zb0]
  by_cases hi:i<n
  ·have:i<32:=by omega
   simp[hi,this]
  ·simp[hi]
 show IntKind.u32.wrap _=_
 rw[show IntKind.u32.bits=32 from rfl,this]
 exact zaT (Nat.lt_of_lt_of_le (zbi _ n) (Nat.pow_le_pow_right (by decide) hn))
theorem zvn(f:List In4):wd f<2^32:=Nat.lt_of_lt_of_le (zbi _ 18) (by decide)
def zd2(x:In4)(i:Nat):List Int:=(offs x).map fun(o:Nat)=>((i+1+o:Nat):Int)
theorem zo8[HasIns G][HasLive G](x:In4)(i:Nat)(hx:x.k<4294967296)(hb:x.brOk)(hi:i≤5000):FP G 170 [IV x,.int .i64 i] (.vs (ints .i64 (zd2 x i)) .no):=by
 refine zak HasLive.h_live_nexts (Nat.le_of_ble_eq_true rfl) ?_
 have he:=ziG (G:=G) x
 have hbr:=zcf (G:=G) x
 have a1:addI .i64 (i:Int) 1=(i:Int)+1:=by rw[zav]<;>omega
 simp[IV,In4.cs,a1] at he hbr ⊢
 refine zab he ?_
 cases h1:zax x.op
 ·simp
  by_cases h5:x.op=5
  ·have a2:addI .i64 ((i:Int)+1) (x.k:Int)=((i+1+x.k:Nat):Int):=by rw[zav]<;>omega
   have hb5:(x.op==5)=true:=by simp[h5]
   simp[hb5,zda x.k hx,a1,a2]
   simp[zd2,offs,h1,h5,ints,zax]
  ·have hb5:(x.op==5)=false:=beqF h5
   simp[hb5]
   refine zab hbr ?_
   cases h2:isBr x.op
   ·simp[zd2,offs,h1,h5,h2,ints,a1]
   ·obtain⟨b1,b2,b3,b4⟩:=hb h2
    have a3:addI .i64 ((i:Int)+1) x.jt=((i+1+x.jt.toNat:Nat):Int):=by rw[zav]<;>omega
    have a4:addI .i64 ((i:Int)+1) x.jf=((i+1+x.jf.toNat:Nat):Int):=by rw[zav]<;>omega
    simp[a1,a3,a4]
    simp[zd2,offs,h1,h5,h2,ints]
 ·simp[zd2,offs,h1,ints]
theorem zo9:∀{f:List In4} {i:Nat} {x:In4},zaN f=true→f[i]?=some x→oneB x (f.length-1-i)=true
 | y::f,0,x,h,hg=>by
  simp only[List.getElem?_cons_zero,Option.some.injEq] at hg
  subst hg
  simp only[zaN,Bool.and_eq_true] at h
  simpa using h.1
 | y::f,i+1,x,h,hg=>by
  simp only[zaN,Bool.and_eq_true] at h
  have:=zo9 h.2 (by simpa using hg)
  rw[←this]
  congr 1
  simp only[List.length_cons]; omega
theorem zeD{f:List In4}{i:Nat}{x:In4}(h:zao f=true)(hg:f[i]?=some x):oneB x (f.length-1-i)=true∧(zax x.op=false→i+1<f.length)∧f.length≤4096:=by
 simp only[zao,Bool.and_eq_true,decide_eq_true_eq] at h
 refine⟨zo9 h.1.2 hg,fun he=>?_,h.1.1⟩
 obtain⟨hi,hx⟩:=List.getElem?_eq_some_iff.1 hg
 by_cases hl:i+1<f.length
 ·exact hl
 ·have:i=f.length-1:=by omega
  have h2:=h.2
  have:f.getLast?=some x:=by rw[List.getLast?_eq_getElem?,←this]; exact hg
  simp only[endB,this] at h2
  rw[h2] at he; cases he
theorem zcw{f:List In4}{i:Nat}{x:In4}(h:zao f=true)(hg:f[i]?=some x){o:Nat}(ho:o∈offs x):i+1+o<f.length:=by
 obtain⟨h1,h2,h3⟩:=zeD h hg
 simp only[oneB,Bool.and_eq_true] at h1
 unfold offs at ho
 split at ho
 ·cases ho
 rename_i he
 have h2:=h2 (by simpa using he)
 split at ho
 ·rename_i h5
  simp only[List.mem_singleton] at ho
  subst ho
  have:=h1.1.2
  rw[if_pos h5,decide_eq_true_eq] at this
  omega
 split at ho
 ·rename_i hb
  have hbr:=zb8 h1.1.1.1 hb
  have:=h1.2
  rw[if_pos hb,decide_eq_true_eq] at this
  simp only[List.mem_cons,List.not_mem_nil,or_false] at ho
  rcases ho with rfl|rfl<;>omega
 ·simp only[List.mem_singleton] at ho
  omega
theorem zpa(x:In4):(offs x).length≤2:=by unfold offs; split; simp; split; simp; split<;>simp
def zb7(f:List In4)(k:Nat):List Nat:=List.replicate k 0++zc0 (f.drop k)
theorem zil(f:List In4)(k:Nat)(h:k≤f.length):(zb7 f k).length=f.length:=by simp[zb7,zfm]; omega
theorem zpU(f:List In4)(k j:Nat)(h:k≤j)(hj:j<f.length):(zb7 f k)[j]?=some (wd (f.drop j)):=by
 rw[zb7,List.getElem?_append_right (by simpa using h)]
 rw[List.length_replicate,zj5 _ _ (by simp; omega),List.drop_drop]
 congr 3; omega
theorem zpV(f:List In4)(k:Nat)(hk:k<f.length):(zb7 f (k+1)).set k (wd (f.drop k))=zb7 f k:=by
 unfold zb7
 rw[List.replicate_succ',List.append_assoc,List.set_append_right _ _ (by simp)]
 rw[List.drop_eq_getElem_cons hk]
 simp only[List.length_replicate,Nat.sub_self,List.singleton_append,List.set_cons_zero]
 rfl
theorem zBd[HasIns G][HasCheck G][HasTells G][HasLive G](f:List In4)(hk:∀ x∈f,x.k<4294967296)(hs:zao f=true):FP G 171 [FL f] (.tup [.vs (nats .u32 (zc0 f)) .no,.int .i64 0]):=by
 have hl:f.length≤4096:=by simp only[zao,Bool.and_eq_true,decide_eq_true_eq] at hs; exact hs.1.1
 have hm:maxLen=9223372036854775807:=by decide
 refine zak HasLive.h_live_At (Nat.le_of_ble_eq_true rfl) ?_
 have h1:=zfs (G:=G) f (by omega) hk
 simp
 refine zab h1 ?_
 have s1:subI .i64 (f.length:Int) 1=(f.length:Int)-1:=by rw[zaK]<;>omega
 simp(disch:=omega)[hs,FL,s1,leTn]
 refine W_up f.length (fun i=>[(0,FL f),(4,.rs 0 0 f.length 1),(5,.int .i64 ((f.length:Int)-1-i))]) (fun i=>[some (.cells (zad .u32 (zb7 f (f.length-i))))]) (fun _=>True) ?_ ?_
 ·simp[zaa,zac,FL,zb7,zc0,zae]
 intro i hi _
 by_cases hlt:i<f.length
 ·have ht:∃ t,t=f.length-1-i:=⟨_,rfl⟩
  obtain⟨t,ht⟩:=ht
  have e1:(f.length:Int)-1-i=(t:Int):=by omega
  have e2:f.length-i=t+1:=by omega
  have e3:f.length-(i+1)=t:=by omega
  have htl:t<f.length:=by omega
  have hg:f[t]?=some f[t]:=List.getElem?_eq_getElem htl
  have hgg:=zaY htl
  have hxm:f[t]∈f:=List.getElem_mem htl
  have hdr:=List.drop_eq_getElem_cons htl
  generalize f[t]=x at hg hgg hxm hdr
  have hkk:=hk x hxm
  obtain⟨o1,_,_⟩:=zeD hs hg
  simp only[oneB,Bool.and_eq_true] at o1
  have hn:=zo8 (G:=G) x t hkk (zb8 o1.1.1.1) (by omega)
  have hu:=zvI (G:=G) x
  have hse:=zvJ (G:=G) x
  have hcs:x.cs=[.int .i64 x.op,.int .i64 x.jt,.int .i64 x.jf,.int .u32 (x.k:Int)]:=rfl
  simp[IV,hcs] at hn hu hse
  simp(disch:=omega)[e1,e2,ltT,FL,hgg,hcs,leT]
  refine zab hn ?_
  simp
  refine W_up (offs x).length (fun j=>[(0,FL f),(4,.rs 0 0 f.length 1),(5,.int .i64 t),(6,.int .u32 (zat (bh (f.drop (t+1)) ((offs x).take j)) 18:Nat)),(27,.vs (ints .i64 (zd2 x t)) .no),(28,.int .i64 (offs x).length),(29,.int .i64 j)])
   (fun _=>[some (.cells (zad .u32 (zb7 f (t+1))))]) (fun _=>True) ?_ ?_
  ·have hb0:zat (bh (f.drop (t+1)) []) 18=0:=zje 18
   simp[zaa,zac,FL,hb0,zd2]
  intro j hj _
  have hol:=zpa x
  by_cases hjl:j<(offs x).length
  ·have hgo:(offs x)[j]?=some (offs x)[j]:=List.getElem?_eq_getElem hjl
   have hom:(offs x)[j]∈offs x:=List.getElem_mem hjl
   have hof:=zcw hs hg hom
   have htk:(offs x).take (j+1)=(offs x).take j++[(offs x)[j]]:=by rw[List.take_add_one,hgo]; rfl
   have hng:(zd2 x t)[j]?=some ((t+1+(offs x)[j]:Nat):Int):=by simp[zd2,hgo]
   generalize(offs x)[j]=o at hgo hom hof htk hng
   have hread:((zad .u32 (zb7 f (t+1))).drop (t+1+o)).take 1=[.int .u32 (wd (f.drop (t+1+o)):Nat)]:=by
    have hcl:=zil f (t+1) (by omega)
    have hcg:=zpU f (t+1) (t+1+o) (by omega) hof
    rw[zaU _ _ _ (by omega)]
    rw[List.getElem?_eq_getElem (by omega),Option.some.injEq] at hcg
    rw[hcg]
   have hor:orI .u32 ((zat (bh (f.drop (t+1)) ((offs x).take j)) 18:Nat):Int) ((wd (f.drop (t+1+o)):Nat):Int)=((zat (bh (f.drop (t+1)) ((offs x).take (j+1))) 18:Nat):Int):=by
    rw[or32 (Nat.lt_of_lt_of_le (zbi _ 18) (by decide)) (zvn _),htk,←zqA,List.drop_drop]
   have hcl:=zil f (t+1) (by omega)
   simp(disch:=omega)[ltT,hng,hread,hcl,hor,leTn,FL,zaa,zac,zag,hjl,-Int.natCast_add]
  ·have hne:j=(offs x).length:=by omega
   subst hne
   rw[List.take_length]
   have hcl:=zil f (t+1) (by omega)
   have hwd:=zwn x (f.drop (t+1))
   rw[←hdr] at hwd
   have hset:=zpV f t htl
   have hlu:zhD x<2^32:=Nat.lt_of_lt_of_le (zbi _ 18) (by decide)
   have hor:orI .u32 ((zhD x:Nat):Int) (zkt .u32 ((zat (bh (f.drop (t+1)) (offs x)) 18:Nat):Int) ((zgK x:Nat):Int))=((wd (f.drop t):Nat):Int):=by
    rw[zgK,zsT _ _ 18 (by decide),or32 hlu (Nat.lt_of_lt_of_le (zbi _ 18) (by decide)),zhD,zqz,hwd]
   have hcset:=zbs .u32 (zb7 f (t+1)) t (wd (f.drop t)) (by omega)
   rw[hset] at hcset
   simp(disch:=omega)[FL,hgg,hcs,ltT,leT,-Int.natCast_add]
   refine zab hu ?_
   simp(disch:=omega)[FL,hgg,hcs,ltT,leT,-Int.natCast_add]
   refine zab hse ?_
   have s3:subI .i64 (t:Int) 1=(f.length:Int)-1-((i+1:Nat):Int):=by rw[zaK]<;>omega
   simp(disch:=omega)[hor,hcl,leTn,hcset,htl,s3,zaa,zac,hlt,e3,-Int.natCast_add]
 ·have hne:i=f.length:=by omega
  subst hne
  have hF:((f.length:Int)≤(f.length:Int)-1)=False:=eq_false (by omega)
  have hc:zb7 f 0=zc0 f:=by simp[zb7]
  have hch:zbb 1 f.length (zad .u32 (zc0 f))=nats .u32 (zc0 f):=by rw[←zfm f]; exact zj0 .u32 (zc0 f)
  have hnl:=zfm f
  simp[hF,hc,hnl,zaj hnl,hch,leTn]
theorem znA[HasIns G][HasCheck G][HasTells G][HasLive G](f:List In4)(t:Nat)(x:In4)(hg:f[t]?=some x)(hk:∀ x∈f,x.k<4294967296)(hs:zao f=true) :
  FP G 172 [FL f,.int .i64 t] (.tup [.int .u32 (zat (bh (f.drop (t+1)) (offs x)) 18:Nat),.int .i64 0]):=by
 refine zak HasLive.h_live_Behind (Nat.le_of_ble_eq_true rfl) ?_
 obtain⟨htl,hx⟩:=List.getElem?_eq_some_iff.1 hg
 have hgg:=zaY htl
 have hxm:f[t]∈f:=List.getElem_mem htl
 rw[hx] at hgg hxm
 have hkk:=hk x hxm
 obtain⟨o1,_,hlen⟩:=zeD hs hg
 simp only[oneB,Bool.and_eq_true] at o1
 have hn:=zo8 (G:=G) x t hkk (zb8 o1.1.1.1) (by omega)
 have hcs:x.cs=[.int .i64 x.op,.int .i64 x.jt,.int .i64 x.jf,.int .u32 (x.k:Int)]:=rfl
 simp[IV,hcs] at hn
 simp
 refine zab (zBd f hk hs) ?_
 have hF:((f.length:Int)≤(t:Int))=False:=eq_false (by omega)
 simp(disch:=omega)[hF,ltF,FL,hgg,hcs]
 refine zab hn ?_
 simp
 refine W_up (offs x).length (fun j=>[(6,.vs (nats .u32 (zc0 f)) .no),(8,.int .u32 (zat (bh (f.drop (t+1)) ((offs x).take j)) 18:Nat)),(33,.vs (ints .i64 (zd2 x t)) .no),(34,.int .i64 (offs x).length),(35,.int .i64 j)])
  (fun _=>[]) (fun _=>True) ?_ ?_
 ·have hb0:zat (bh (f.drop (t+1)) []) 18=0:=zje 18
  simp[zaa,zac,FL,hb0,zd2]
 intro j hj _
 have hol:=zpa x
 by_cases hjl:j<(offs x).length
 ·have hgo:(offs x)[j]?=some (offs x)[j]:=List.getElem?_eq_getElem hjl
  have hom:(offs x)[j]∈offs x:=List.getElem_mem hjl
  have hof:=zcw hs hg hom
  have htk:(offs x).take (j+1)=(offs x).take j++[(offs x)[j]]:=by rw[List.take_add_one,hgo]; rfl
  have hng:(zd2 x t)[j]?=some ((t+1+(offs x)[j]:Nat):Int):=by simp[zd2,hgo]
  generalize(offs x)[j]=o at hgo hom hof htk hng
  have hread:=zj5 f (t+1+o) hof
  have hor:orI .u32 ((zat (bh (f.drop (t+1)) ((offs x).take j)) 18:Nat):Int) ((wd (f.drop (t+1+o)):Nat):Int)=((zat (bh (f.drop (t+1)) ((offs x).take (j+1))) 18:Nat):Int):=by
   rw[or32 (Nat.lt_of_lt_of_le (zbi _ 18) (by decide)) (zvn _),htk,←zqA,List.drop_drop]
  simp(disch:=omega)[ltT,hng,hread,hor,leTn,FL,zaa,zac,zag,hjl,-Int.natCast_add]
 ·have hne:j=(offs x).length:=by omega
  subst hne
  simp
end Go.Ev
/- The law LiveLast. -/
namespace Go.Ev
open Go Go.RowKit
variable {G:Tbl}
theorem zlw{f:List In4}(h:zao f=true):f≠[]:=by
 rintro rfl; simp[zao,endB] at h
end Go.Ev
/- What hurdleref07 says is needed. -/
namespace Go.Ev
open Go Go.RowKit
variable {G:Tbl}
def cb(l:List Bool):List V:=l.map V.bool
@[simp] theorem zBD (l:List Bool):(cb l).length=l.length:=by simp[cb]
@[simp] theorem cb_cl (n:Nat) (l:List Bool):clL n (cb l)=cb l:=by
 rw[zan]; simp[cb,Function.comp_def]
theorem zpb(l:List Bool)(i:Nat)(b:Bool)(h:l[i]?=some b):((cb l).drop i).take 1=[.bool b]:=by
 obtain⟨hl,rfl⟩:=List.getElem?_eq_some_iff.1 h
 rw[cb,←List.map_drop,List.drop_eq_getElem_cons hl]
 rfl
theorem ziy(l:List Bool)(i:Nat)(x:Bool)(h:i<l.length):(cb l).take i++(V.bool x::(cb l).drop (i+1))=cb (l.set i x):=by
 rw[cb,←List.map_drop,←List.map_take,List.set_eq_take_append_cons_drop,if_pos h]
 simp[cb]
@[simp] theorem zB3 (l:List Bool):(cb l).all V.pure=true:=by simp[cb]
@[simp high] theorem zBE (base:Nat) (e:Env) (H:Heap) (s bytes:Nat) (n:X):ev1 base e H (.mksl s bytes [.bool false] n)=(match n.ev e with
  | .int _ m=>if zay H (base+s)=true∧0≤m∧m.toNat*bytes≤140737488355328 then some (.rs (base+s) 0 m.toNat 1,H.set (base+s) (some (.cells (cb (List.replicate m.toNat false))))) else none
  | _=>none):=by
 have h:∀ m:Nat,(List.replicate m [V.bool false]).flatten=cb (List.replicate m false):=fun m=>by
  induction m with
  | zero=>rfl
  | succ m ih=>rw[List.replicate_succ,List.flatten_cons,ih]; simp[cb,List.replicate_succ]
 rw[ev1.eq_27]
 cases n.ev e<;>simp only[h,List.length_singleton]
theorem zj6{x:In4}(hb:x.brOk)(o:Nat):zeZ x o=decide (o∈offs x):=by
 unfold zeZ offs
 cases he:zax x.op
 ·simp only[Bool.not_false,Bool.true_and,Bool.false_eq_true,if_false]
  by_cases h5:x.op=5
  ·have:isBr x.op=false:=by rw[h5]; decide
   simp[h5,show isBr 5=false by decide]
  ·cases hbr:isBr x.op
   ·simp[h5]
   ·obtain⟨h1,h2,h3,h4⟩:=hb hbr
    simp only[if_true,h5,if_false,List.mem_cons,List.not_mem_nil,or_false]
    rw[Bool.eq_iff_iff]
    simp only[Bool.or_eq_true,decide_eq_true_eq]
    omega
 ·simp
theorem zxC{x:In4}(hb:x.brOk){i m:Nat}(ho:∀ o∈offs x,o<m)(q:Nat→Bool):(nxL x i m).any (fun j=>q (j.toNat-(i+1)))=(offs x).any q:=by
 rw[Bool.eq_iff_iff,List.any_eq_true,List.any_eq_true]
 constructor
 ·rintro⟨j,hj,hq⟩
  simp only[nxL,List.mem_map,List.mem_filter,List.mem_range] at hj
  obtain⟨o,⟨_,hw⟩,rfl⟩:=hj
  rw[zj6 hb,decide_eq_true_eq] at hw
  refine⟨o,hw,?_⟩
  rw[show((i+1+o:Nat):Int).toNat-(i+1)=o by omega] at hq
  exact hq
 ·rintro⟨o,ho',hq⟩
  refine⟨((i+1+o:Nat):Int),?_,?_⟩
  ·simp only[nxL,List.mem_map,List.mem_filter,List.mem_range]
   exact⟨o,⟨ho o ho',by rw[zj6 hb]; simpa using ho'⟩,rfl⟩
  ·rw[show((i+1+o:Nat):Int).toNat-(i+1)=o by omega]; exact hq
theorem zxD{x:In4}{i m j:Nat}(h:j<(nxL x i m).length):∃ o,(nxL x i m)[j]?=some ((i+1+o:Nat):Int)∧o<m:=by
 have hm:(nxL x i m)[j]∈nxL x i m:=List.getElem_mem h
 rw[List.getElem?_eq_getElem h]
 generalize(nxL x i m)[j]=v at hm
 simp only[nxL,List.mem_map,List.mem_filter,List.mem_range] at hm
 obtain⟨o,⟨ho,_⟩,rfl⟩:=hm
 exact⟨o,rfl,ho⟩
theorem zuy{f:List In4}{i:Nat}{x:In4}(h:zao f=true)(hg:f[i]?=some x):∀ o∈offs x,o<f.length-1-i:=fun o ho=>by
 have:=zcw h hg ho; omega
theorem zdQ{f:List In4}{i:Nat}{x:In4}(h:zao f=true)(hg:f[i]?=some x):x.brOk:=by
 have:=(zeD h hg).1
 simp only[oneB,Bool.and_eq_true] at this
 exact zb8 this.1.1.1
end Go.Ev
/- Runs, by hurdleref06; and the law LiveRuns. -/
namespace Go.Ev
open Go Go.RowKit
variable {G:Tbl}
def goes(s:St)(x:In4):Nat:=if x.op=5 then x.k else if isBr x.op then(if takesB s x then x.jt.toNat else x.jf.toNat) else 0
def run(d:Da)(g:List In4)(s:St):Nat×Nat :=
 match g with
 | []=>(0,0)
 | x::g=>if x.op=6 then(x.k,1) else if x.op=22 then(s.a,1) else if(zbm s x d).2 then((run d (g.drop (goes s x)) (zbm s x d).1).1,(run d (g.drop (goes s x)) (zbm s x d).1).2+1) else(0,1)
termination_by g.length
decreasing_by all_goals (simp only[List.length_drop,List.length_cons]; omega)
theorem zpc(d:Da)(x:In4)(g:List In4)(s:St):run d (x::g) s=if x.op=6 then(x.k,1) else if x.op=22 then(s.a,1) else if(zbm s x d).2 then((run d (g.drop (goes s x)) (zbm s x d).1).1,(run d (g.drop (goes s x)) (zbm s x d).1).2+1) else(0,1):=by
 rw[run]
theorem zsU{x:In4}(h:zax x.op=false)(s:St):goes s x∈offs x:=by
 unfold goes offs
 rw[h]
 simp only[Bool.false_eq_true,if_false]
 by_cases h5:x.op=5
 ·simp[h5]
 ·rw[if_neg h5,if_neg h5]
  split
  ·split<;>simp
  ·simp
end Go.Ev
/- Records with another word; and branches whose ways are swapped. -/
namespace Go.Ev
open Go Go.RowKit
variable {G:Tbl}
def two(w:List Nat)(i:Nat):Nat:=w.getD i 0+w.getD (i+1) 0*4294967296
def ofW(w:List Nat):Da:=⟨w.getD 0 0,w.getD 1 0,two w 2,(List.range 6).map fun i=>two w (4+2*i)⟩
def zmc(d:Da)(at' v:Nat):Da:=if at'%4=0∧at'<64 then ofW ((zaH d).set (at'/4) v) else d
theorem zuz{w:List Nat}(hl:w.length=16)(hw:∀ x∈w,x<4294967296):zaH (ofW w)=w:=by
 match w,hl with
 | [a0,a1,a2,a3,a4,a5,a6,a7,a8,a9,a10,a11,a12,a13,a14,a15],_ =>
  simp only[List.mem_cons,List.not_mem_nil,or_false,forall_eq_or_imp,forall_eq] at hw
  simp only[zaH,ofW,two,lo,hi,List.range_succ,List.range_zero,List.nil_append,List.map_append,List.map_cons,List.map_nil,List.cons_append,List.flatMap_cons,List.flatMap_nil,List.getD_cons_zero,List.getD_cons_succ,Nat.mul_zero,Nat.mul_one,Nat.reduceMul,Nat.reduceAdd,List.cons.injEq,and_true,true_and]
  and_intros<;>omega
theorem zj7{w:List Nat}(hl:w.length=16)(hw:∀ x∈w,x<4294967296):(ofW w).ok:=by
 have hg:∀ i,w.getD i 0<4294967296:=by
  intro i
  rw[List.getD]
  cases h:w[i]? with
  | none=>decide
  | some z=>exact hw z (List.mem_of_getElem? h)
 have h2:∀ i,two w i<18446744073709551616:=fun i=>by
  have:=hg i; have:=hg (i+1); unfold two; omega
 refine⟨hg 0,hg 1,h2 2,by simp[ofW],fun x hx=>?_⟩
 simp only[ofW,List.mem_map] at hx
 obtain⟨i,_,rfl⟩:=hx
 exact h2 _
theorem zxE{l:List Nat}{i v n:Nat}(h:∀ x∈l,x<n)(hv:v<n):∀ x∈l.set i v,x<n:=fun x hx=>by
 rcases List.mem_or_eq_of_mem_set hx with h1|h1
 ·exact h x h1
 ·rw[h1]; exact hv
end Go.Ev
/- What run.Run and hurdleref06.Run compute. -/
namespace Go.Ev
open Go Go.RowKit
variable {G:Tbl}
def St0:St:=⟨0,0,zae 16⟩
end Go.Ev
/- What data.With computes. -/
namespace Go.Ev
open Go Go.RowKit
variable {G:Tbl}
theorem zBe(a b c:V)(l:List V)(n:Nat):(a::b::c::l).take (3+n)=a::b::c::l.take n:=by rw[Nat.add_comm]; rfl
theorem zBf(a b c:V)(l:List V)(n:Nat):(a::b::c::l).drop (3+n)=l.drop n:=by rw[Nat.add_comm]; rfl
theorem zxF(a b c:V)(l:List V)(n:Nat):(a::b::c::l).drop (3+n+1)=l.drop (n+1):=by rw[show 3+n+1=(n+1)+3 by omega]; rfl
theorem zxG(b c:V)(l:List V)(n:Nat):(b::c::l).drop (3+n)=l.drop (n+1):=by rw[show 3+n=(n+1)+2 by omega]; rfl
theorem zsV{w:List Nat}(hw:∀ x∈w,x<4294967296)(i:Nat):orI .u64 ((w.getD i 0:Nat):Int) (shlI .u64 ((w.getD (i+1) 0:Nat):Int) 32)=((two w i:Nat):Int):=by
 have hg:∀ i,w.getD i 0<4294967296:=by
  intro i
  rw[List.getD]
  cases h:w[i]? with
  | none=>decide
  | some z=>exact hw z (List.mem_of_getElem? h)
 exact zr2 _ _ (hg i) (hg (i+1))
def ZD:List V:=[.int .u32 0,.int .u32 0,.int .u64 0,.int .u64 0,.int .u64 0,.int .u64 0,.int .u64 0,.int .u64 0,.int .u64 0]
def HG(w:List Nat)(n:Nat)(a b c:Nat)(l:List Nat):Heap:=[some (.cells (zad .u32 w)),some (.cells ZD),some (.cells [.int .i64 n]),some (.cells (.int .u32 (a:Int)::.int .u32 (b:Int)::.int .u64 (c:Int)::zad .u64 l))]
theorem zxH[HasWith G](w:List Nat)(n a b c:Nat)(l:List Nat)(hl:w.length=16)(hw:∀ x∈w,x<4294967296)(hn:n+1<16) :
  Big G (.F 231 [.ptr 0 0,.ptr 2 0] (HG w n a b c l) (.int .u64 (two w n:Nat)) (HG w (n+2) a b c l)):=by
 have c1:=zaU .u32 w n (by omega)
 have c2:=zaU .u32 w (n+1) (by omega)
 have d1:w.getD n 0=w[n]:=by simp[List.getD,List.getElem?_eq_getElem (show n<w.length by omega)]
 have d2:w.getD (n+1) 0=w[n+1]:=by simp[List.getD,List.getElem?_eq_getElem (show n+1<w.length by omega)]
 have ho:=zsV hw n
 rw[d1,d2] at ho
 have l1:=hw _ (List.getElem_mem (show n<w.length by omega))
 have l2:=hw _ (List.getElem_mem (show n+1<w.length by omega))
 have v1:=zlO w[n] (by omega)
 have v2:=zlO w[n+1] (by omega)
 have e1:addI .i64 (n:Int) 1=((n+1:Nat):Int):=zag (by omega)
 have e2:addI .i64 (n:Int) 2=((n+2:Nat):Int):=addL (n:=2) (by omega)
 have i1:((n:Int)<16)=True:=ltT (by omega)
 have i2:(((n+1:Nat):Int)<16)=True:=ltT (by omega)
 have j1:(n+1≤16)=True:=leTn (by omega)
 have j2:(n+1+1≤16)=True:=leTn (by omega)
 have j3:(n≤14)=True:=leTn (by omega)
 refine F_of HasWith.h_data_of_1 (Nat.le_of_ble_eq_true rfl) ?_
 simp[HG,ZD,e1,e2,i1,i2,j1,j2,j3,c1,c2,v1,v2,ho,hl,-Int.natCast_add]
def zdu(w:List Nat)(i:Nat):List Nat:=(List.range 6).map fun j=>if j<i then two w (4+2*j) else 0
theorem zj8(w:List Nat)(i:Nat):(zdu w i).length=6:=by simp[zdu]
theorem zrs(w:List Nat){i:Nat}(hi:i<6):(zdu w i).set i (two w (4+2*i))=zdu w (i+1):=by
 apply List.ext_getElem?
 intro j
 rw[List.getElem?_set,zj8]
 by_cases h:i=j
 ·subst h
  simp[zdu,hi]
 ·rw[if_neg h]
  by_cases hj:j<6
  ·simp only[zdu,List.getElem?_map,List.getElem?_range hj,Option.map_some]
   by_cases h2:j<i
   ·simp[h2,show j<i+1 by omega]
   ·simp[h2,show¬j<i+1 by omega]
  ·simp[zdu,hj]
theorem zwo(w:List Nat):zdu w 6=(ofW w).args:=by
 simp only[zdu,ofW]
 apply List.map_congr_left
 intro j hj
 simp[List.mem_range.1 hj]
theorem zwp(w:List Nat):zdu w 0=zae 6:=by
 simp[zdu,zae,List.range_succ]
theorem zxI[HasWith G](w:List Nat)(hl:w.length=16)(hw:∀ x∈w,x<4294967296):FP G 232 [.agg (zad .u32 w)] (DV (ofW w)):=by
 refine zak HasWith.h_data_of (Nat.le_of_ble_eq_true rfl) ?_
 have htw:=zaj (k:=.u32) hl
 have c0:(zad .u32 w).take 1=[.int .u32 (w[0]:Nat)]:=by have:=zaU .u32 w 0 (by omega); rwa[List.drop_zero] at this
 have c1:(zad .u32 w).tail.take 1=[.int .u32 (w[1]:Nat)]:=by have:=zaU .u32 w 1 (by omega); rwa[List.drop_one] at this
 have c2:=zaU .u32 w 2 (by omega)
 have c3:=zaU .u32 w 3 (by omega)
 have d:∀ i (h:i<16),w.getD i 0=w[i]:=fun i h=>by simp[List.getD,List.getElem?_eq_getElem (show i<w.length by omega)]
 have ho:=zsV hw 2
 rw[d 2 (by omega),d 3 (by omega)] at ho
 have l2:=hw _ (List.getElem_mem (show 2<w.length by omega))
 have l3:=hw _ (List.getElem_mem (show 3<w.length by omega))
 have v2:=zlO w[2] (by omega)
 have v3:=zlO w[3] (by omega)
 simp[c0,c1,c2,c3,v2,v3,ho,hl,htw]
 refine W_up 6 (fun i=>[(2,.ptr 1 0),(4,.fn 231 [.ptr 0 0,.ptr 2 0]),(5,.ptr 3 0),(21,.int .i64 i)])
  (fun i=>HG w (4+2*i) w[0] w[1] (two w 2) (zdu w i)) (fun _=>True) ?_ ?_
 ·have hz6:zad .u64 (zae 6)=[.int .u64 0,.int .u64 0,.int .u64 0,.int .u64 0,.int .u64 0,.int .u64 0]:=rfl
  simp[zaa,zac,HG,ZD,zwp,hz6,hl,htw]
 intro i hi _
 by_cases hlt:i<6
 ·have hg:=zxH (G:=G) w (4+2*i) w[0] w[1] (two w 2) (zdu w i) hl hw (by omega)
  have hfl:=zj8 w i
  have cs:=zbs .u64 (zdu w i) i (two w (4+2*i)) (by omega)
  rw[zrs w hlt] at cs
  simp[HG,ZD,-Int.natCast_add,-Int.natCast_mul] at hg
  simp(disch:=omega)[ltT,leTn,HG,ZD,-Int.natCast_add,-Int.natCast_mul]
  refine zaF hg (by simp) ?_
  simp(disch:=omega)[zac,zBe,zBf,zxF,zxG,hfl,cs,ltT,leTn,zag,hlt,zaa,show 4+2*(i+1)=4+2*i+2 from by omega,-Int.natCast_add,-Int.natCast_mul]
 ·have hne:i=6:=by omega
  subst hne
  have h6:=zwo w
  have h6l:=zj8 w 6
  have ht6:=zaj (k:=.u64) h6l
  have e0:=d 0 (by omega)
  have e1:=d 1 (by omega)
  simp[HG,ZD,DV,Da.cs,h6l,ht6]
  rw[←h6]
  simp[ofW,hl]
theorem zwq[HasData G][HasWith G](d:Da)(n v:Nat)(hd:d.ok)(hn:n<4294967296)(hv:v<4294967296):FP G 233 [DV d,.int .u32 n,.int .u32 v] (DV (zmc d n v)):=by
 refine zak HasWith.h_data_With (Nat.le_of_ble_eq_true rfl) ?_
 have hw:=zos (G:=G) d hd
 have ht:=zaj (k:=.u64) hd.2.2.2.1
 have h6:=hd.2.2.2.1
 simp[DV,Da.cs] at hw ⊢
 refine zab (zot n hn) ?_
 by_cases h:n%4=0∧n<64
 ·have hq:quoI .u32 (n:Int) 4=((n/4:Nat):Int):=zrq (b:=4) hn (by decide)
  have hl:=zbH h6
  have htw:=zaj (k:=.u32) hl
  have cs:=zbs .u32 (zaH d) (n/4) v (by omega)
  have hl2:((zaH d).set (n/4) v).length=16:=by rw[List.length_set]; exact hl
  have htw2:=zaj (k:=.u32) hl2
  have hof:=zxI (G:=G) ((zaH d).set (n/4) v) hl2 (zxE (znb hd) hv)
  have ho6:(ofW ((zaH d).set (n/4) v)).args.length=6:=by simp[ofW]
  have ht2:=zaj (k:=.u64) ho6
  simp[DV,Da.cs] at hof
  simp[h,h6,ht,zmc]
  refine zab hw ?_
  simp(disch:=omega)[hq,ltT,leTn,hl,htw,cs,hl2,htw2,-Int.natCast_ediv]
  refine zab hof ?_
  simp[ho6,ht2]
 ·simp[h,zmc,h6,ht]
end Go.Ev
/- Windows that are run, and their variables' numbers: plain. -/
namespace Go.Ev
open Go Go.RowKit
variable {G:Tbl}
def runW(d:Da):List In4→St→St×Nat
 | [],s=>(s,0)
 | x::w,s=>if(zbm s x d).2 then((runW d w (zbm s x d).1).1,(runW d w (zbm s x d).1).2+1) else(s,0)
theorem zkI(d:Da):∀(w:List In4) (s:St),(runW d w s).2≤w.length
 | [],s=>Nat.zero_le _
 | x::w,s=>by
  have:=zkI d w (zbm s x d).1
  simp only[runW,List.length_cons]
  split
  ·simp only; omega
  ·simp
theorem zkJ{d:Da}(hd:d.ok):∀(w:List In4) (s:St),s.ok→(∀ x∈w,x.k<4294967296)→(runW d w s).1.ok
 | [],s,hs,_=>hs
 | x::w,s,hs,hk=>by
  have:=zkJ hd w (zbm s x d).1 (znf hs (hk x (by simp)) hd) (fun y hy=>hk y (by simp[hy]))
  simp only[runW]
  split
  ·exact this
  ·exact hs
def asgL(s:St)(d:Da):List Nat:=s.a::s.x::(s.m++zaH d)
def stO(v:List Nat):St:=⟨v.getD 0 0,v.getD 1 0,(v.drop 2).take 16⟩
theorem zuA{s:St}{d:Da}(hs:s.ok)(hd:d.ok):(asgL s d).length=34:=by
 simp[asgL,hs.2.2.1,zbH hd.2.2.2.1]
def wAt(v:List Nat)(i:Nat):List Nat:=(v.drop 18).take i++zae (16-i)
theorem zkK{v:List Nat}(hl:v.length=34){i:Nat}(hi:i≤16):(wAt v i).length=16:=by
 simp[wAt,hl]; omega
theorem zpd{v:List Nat}(hv:∀ x∈v,x<4294967296)(i:Nat):∀ x∈wAt v i,x<4294967296:=by
 intro x hx
 simp only[wAt,List.mem_append,zae,List.mem_replicate] at hx
 rcases hx with hx|hx
 ·exact hv x (List.mem_of_mem_drop (List.mem_of_mem_take hx))
 ·omega
theorem zwr{v:List Nat}(hl:v.length=34){i:Nat}(hi:i<16):(wAt v i).set i (v[18+i]'(by omega))=wAt v (i+1):=by
 apply List.ext_getElem?
 intro j
 have hg:∀ i,i≤16→∀ j,(wAt v i)[j]?=if j<i then v[18+j]? else if j<16 then some 0 else none:=by
  intro i hi j
  rw[wAt,List.getElem?_append,List.length_take,List.length_drop,hl,List.getElem?_take,List.getElem?_drop]
  by_cases h1:j<i
  ·rw[if_pos (by omega),if_pos h1,if_pos h1]
  ·rw[if_neg (by omega),if_neg h1]
   by_cases h2:j<16
   ·rw[if_pos h2]; simp[zae,List.getElem?_replicate]; omega
   ·rw[if_neg h2]; simp[zae,List.getElem?_replicate]; omega
 rw[List.getElem?_set,zkK hl (by omega),hg i (by omega),hg (i+1) (by omega)]
 by_cases e:i=j
 ·subst e
  rw[if_pos rfl,if_pos hi,if_pos (by omega),List.getElem?_eq_getElem (by omega)]
 ·rw[if_neg e]
  by_cases h1:j<i
  ·rw[if_pos h1,if_pos (by omega)]
  ·rw[if_neg h1]
   by_cases h2:j<i+1
   ·omega
   ·rw[if_neg h2]
theorem zuB{v:List Nat}(hl:v.length=34)(hv:∀ x∈v,x<4294967296){i:Nat}(hi:i<16):zmc (ofW (wAt v i)) (4*i) (v[18+i]'(by omega))=ofW (wAt v (i+1)):=by
 rw[zmc,if_pos ⟨by omega,by omega⟩,zuz (zkK hl (by omega)) (zpd hv i),show 4*i/4=i by omega,zwr hl hi]
theorem zxJ{v:List Nat}(hl:v.length=34):wAt v 16=v.drop 18:=by
 rw[wAt,show zae (16-16)=[] from rfl,List.append_nil,List.take_of_length_le (by simp[hl])]
theorem zBg(v:List Nat):wAt v 0=zae 16:=by simp[wAt]
theorem zpe{v:List Nat}(hl:v.length=34)(hv:∀ x∈v,x<4294967296):(stO v).ok:=by
 have hg:∀ i,v.getD i 0<4294967296:=by
  intro i
  rw[List.getD]
  cases h:v[i]? with
  | none=>decide
  | some z=>exact hv z (List.mem_of_getElem? h)
 exact⟨hg 0,hg 1,by simp[stO,hl],fun x hx=>hv x (List.mem_of_mem_drop (List.mem_of_mem_take hx))⟩
end Go.Ev
/- Windows that are run, by window and by hurdleref17; the laws WindowRuns, WindowRows, WindowNone. -/
namespace Go.Ev
open Go Go.RowKit
variable {G:Tbl}
theorem znB[HasWd G][HasNeg G][HasIns G][HasCheck G][HasData G][HasStep G][HasWRight G][HasWinRun G](w:List In4)(s:St)(d:Da)(hf:w.length≤maxLen)(hk:∀ x∈w,x.k<4294967296)(hs:s.ok)(hd:d.ok)(hw:winB w=true) :
  FP G 292 [FL w,SV s,DV d] (.tup [SV (runW d w s).1,.int .i64 ((runW d w s).2:Nat)]):=by
 refine zak HasWinRun.h_window_Run (Nat.le_of_ble_eq_true rfl) ?_
 have hr:=zb1 (G:=G) w hf hk
 rw[hw] at hr
 have hwl:w.length≤32:=by simp only[winB,Bool.and_eq_true,decide_eq_true_eq] at hw; exact hw.1
 have hl:=hs.2.2.1
 have htk:=zaj (k:=.u32) hl
 have h6:=hd.2.2.2.1
 have ht6:=zaj (k:=.u64) h6
 obtain⟨R,hR⟩:∃ R,R=runW d w s:=⟨_,rfl⟩
 have hRl:=zkI d w s
 have hRo:=zkJ hd w s hs hk
 rw[←hR] at hRl hRo ⊢
 simp[FL] at hr
 simp[FL,SV,DV,St.cs,Da.cs]
 refine zab hr ?_
 simp[hl,htk]
 refine zfZ (fun z:St×Nat=>w.length-z.2) (fun z=>[(0,FL w),(4,.ptr 0 0),(5,.ptr 1 0),(6,.ptr 2 0),(16,FL w),(17,.int .i64 w.length),(18,.int .i64 z.2)])
  (fun z=>[some (.cells z.1.cs),some (.cells d.cs),some (.cells (zad .u32 (zae 18)))])
  (fun z=>z.2≤w.length∧z.1.ok∧(runW d (w.drop z.2) z.1).1=R.1∧z.2+(runW d (w.drop z.2) z.1).2=R.2) (s,0) ?_ ?_
 ·refine⟨⟨Nat.zero_le _,hs,by simp[hR],by simp[hR]⟩,?_,?_⟩
  ·simp[zaa,FL]
  ·simp[zac,Da.cs,St.cs]
 rintro⟨t,i⟩ ⟨hi,ht,hr1,hr2⟩
 simp only at hi ht hr1 hr2
 have hl1:=ht.2.2.1
 have htk1:=zaj (k:=.u32) hl1
 by_cases hlt:i<w.length
 ·obtain⟨x,hfx⟩:∃ x,x=w[i]:=⟨_,rfl⟩
  have hg:w[i]?=some x:=by rw[List.getElem?_eq_getElem hlt,hfx]
  have hgv:=hfx.symm
  have hdr:=List.drop_eq_getElem_cons hlt
  rw[hgv] at hdr
  have hkk:=hk x (hgv▸List.getElem_mem hlt)
  have hcs:x.cs=[.int .i64 x.op,.int .i64 x.jt,.int .i64 x.jf,.int .u32 (x.k:Int)]:=rfl
  have hst:=zvN (G:=G) t x d ht hkk hd
  have hso:=znf ht hkk hd
  have hl2:=hso.2.2.1
  have htk2:=zaj (k:=.u32) hl2
  have hdf:=zhN (k:=.u32) hl1
  have hz16:zad .u32 (zae 18)=.int .u32 0::.int .u32 0::zad .u32 (zae 16):=rfl
  rw[hdr] at hr1 hr2
  simp only[runW] at hr1 hr2
  simp[SV,IV,DV,hcs,St.cs,Da.cs] at hst
  simp(disch:=omega)[ltT,FL,hg,hgv,hcs,St.cs,Da.cs,hl1,htk1,h6,ht6,-Int.natCast_add]
  refine zab hst ?_
  cases hok:(zbm t x d).2
  ·rw[hok] at hr1 hr2
   simp only[Bool.false_eq_true,if_false] at hr1 hr2
   simp[hl1,htk1,hl2,htk2,hdf,hz16,-Int.natCast_add]
   rw[←hr1,←hr2]
   simp[St.cs]
  ·rw[hok] at hr1 hr2
   simp only[if_true] at hr1 hr2
   simp(disch:=omega)[hl1,htk1,hl2,htk2,hdf,zag,-Int.natCast_add]
   refine⟨((zbm t x d).1,i+1),by simp only; omega,⟨by simp only; omega,hso,hr1,by simp only; omega⟩,?_,?_⟩
   ·simp[zaa,FL,-Int.natCast_add]
   ·simp[zac,Da.cs,St.cs,hl1,htk1,hl2,htk2,hdf]
 ·have hne:i=w.length:=by omega
  subst hne
  rw[List.drop_length] at hr1 hr2
  simp only[runW] at hr1 hr2
  have hz16:zad .u32 (zae 18)=.int .u32 0::.int .u32 0::zad .u32 (zae 16):=rfl
  simp[FL,St.cs,Da.cs,hl1,htk1,hz16]
  rw[←hr1,←hr2]
  simp[St.cs]
end Go.Ev
/- The laws WindowRuns, WindowRows, WindowNone. -/
namespace Go.Ev
open Go Go.RowKit
variable {G:Tbl}
theorem zqB(l:List In4):(IL l=[])=(l=[]):=propext (zeY l)
end Go.Ev
/- The variables' numbers, and back; the law WindowAssigns. -/
namespace Go.Ev
open Go Go.RowKit
variable {G:Tbl}
def asAt(s:St)(d:Da)(i:Nat):List Nat:=s.a::s.x::(s.m++((zaH d).take i++zae (16-i)))
theorem zlx{s:St}{d:Da}(hs:s.ok)(hd:d.ok){i:Nat}(hi:i≤16):(asAt s d i).length=34:=by
 simp[asAt,hs.2.2.1,zbH hd.2.2.2.1]; omega
theorem zmL{s:St}{d:Da}(hd:d.ok):asAt s d 16=asgL s d:=by
 rw[asAt,show zae (16-16)=[] from rfl,List.append_nil,List.take_of_length_le (by rw[zbH hd.2.2.2.1]; exact Nat.le_refl _),asgL]
theorem zuC{s:St}{d:Da}(hs:s.ok)(hd:d.ok){i:Nat}(hi:i<16):(asAt s d i).set (18+i) ((zaH d).getD i 0)=asAt s d (i+1):=by
 have hw:=zbH hd.2.2.2.1
 have hm:=hs.2.2.1
 have hg:(zaH d).getD i 0=(zaH d)[i]'(by omega):=by simp[List.getD,List.getElem?_eq_getElem (show i<(zaH d).length by omega)]
 rw[hg]
 have e1:18+i=(16+i)+1+1:=by omega
 simp only[asAt,e1,List.set_cons_succ]
 congr 2
 rw[List.set_append_right _ _ (by omega),hm,show 16+i-16=i by omega]
 congr 1
 rw[List.set_append_right _ _ (by rw[List.length_take]; omega),List.length_take,Nat.min_eq_left (by omega),Nat.sub_self,List.take_succ_eq_append_getElem (by omega),List.append_assoc]
 congr 1
 rw[show 16-i=(16-(i+1))+1 by omega]
 rfl
theorem zj9[HasData G][HasWinAsg G](s:St)(d:Da)(hs:s.ok)(hd:d.ok):FP G 293 [SV s,DV d] (.agg (zad .u32 (asgL s d))):=by
 refine zak HasWinAsg.h_window_Assign (Nat.le_of_ble_eq_true rfl) ?_
 have hl:=hs.2.2.1
 have htk:=zaj (k:=.u32) hl
 have h6:=hd.2.2.2.1
 have ht6:=zaj (k:=.u64) h6
 have hz:zad .u32 (zae 34)=.int .u32 0::.int .u32 0::zad .u32 (zae 32):=rfl
 have hz2:(zad .u32 (zae 32)).drop 16=zad .u32 (zae 16):=rfl
 have h0:asAt s d 0=s.a::s.x::(s.m++zae 16):=by simp[asAt]
 have hcap:∀ l m:List Nat,zad .u32 (l++m)=zad .u32 l++zad .u32 m:=fun l m=>by simp[zad]
 simp[SV,DV,St.cs,Da.cs,hz,hl,htk,hz2]
 refine W_up 16 (fun i=>[(3,.ptr 1 0),(4,.ptr 2 0),(5,.ptr 3 0),(17,.int .i64 i)])
  (fun i=>[some (.cells s.cs),some (.cells d.cs),some (.cells (zad .u32 (zae 34))),some (.cells (zad .u32 (asAt s d i)))]) (fun _=>True) ?_ ?_
 ·have hj:clL 4 (zad .u32 s.m++zad .u32 (zae 16))=zad .u32 (s.m++zae 16):=by rw[←hcap]; simp
  simp[zaa,zac,St.cs,Da.cs,h0,hz,hj]
  rfl
 intro i hi _
 by_cases hlt:i<16
 ·have hw:=zqa (G:=G) d (4*i) hd (by omega)
  have hw2:zgL d (4*i)=((zaH d).getD i 0,true):=by rw[zgL,if_pos ⟨by omega,by omega⟩,show 4*i/4=i by omega]
  rw[hw2] at hw
  have hal:=zlx hs hd hi
  have cs:=zbs .u32 (asAt s d i) (18+i) ((zaH d).getD i 0) (by omega)
  rw[zuC hs hd hlt] at cs
  obtain⟨x,hx⟩:∃ x,x=(zaH d).getD i 0:=⟨_,rfl⟩
  rw[←hx] at cs hw
  have e1:addI .i64 18 (i:Int)=((18+i:Nat):Int):=by rw[show(18:Int)=((18:Nat):Int) from rfl]; exact addN (by omega)
  have e2:mulI .i64 4 (i:Int)=((4*i:Nat):Int):=by unfold mulI; rw[show(4:Int)*(i:Int)=((4*i:Nat):Int) by omega]; exact IntWalk.i64_in _ ⟨by omega,by omega⟩
  have e3:zaP .u32 ((4*i:Nat):Int)=((4*i:Nat):Int):=by unfold zaP; exact IntWalk.u32_in _ ⟨by omega,by omega⟩
  simp[DV,Da.cs,-Int.natCast_mul] at hw
  simp(disch:=omega)[ltT,leTn,e1,e2,e3,Da.cs,h6,ht6,-Int.natCast_add,-Int.natCast_mul]
  refine zab hw ?_
  simp(disch:=omega)[ltT,leTn,hal,cs,hlt,zag,zaa,zac,St.cs,Da.cs,h6,ht6,-Int.natCast_add,-Int.natCast_mul]
 ·have hne:i=16:=by omega
  subst hne
  have hal:=zuA hs hd
  have ht:=zaj (k:=.u32) hal
  have e16:=zmL (s:=s) hd
  simp[e16,hal,ht]
theorem zpW[HasData G][HasWith G][HasWinState G](v:List Nat)(hl:v.length=34)(hv:∀ x∈v,x<4294967296):FP G 294 [.agg (zad .u32 v)] (.tup [SV (stO v),DV (ofW (v.drop 18))]):=by
 refine zak HasWinState.h_window_State (Nat.le_of_ble_eq_true rfl) ?_
 have htk:=zaj (k:=.u32) hl
 obtain⟨a,hva⟩:∃ a,a=v[0]:=⟨_,rfl⟩
 obtain⟨x,hvx⟩:∃ x,x=v[1]:=⟨_,rfl⟩
 have c0:(zad .u32 v).take 1=[.int .u32 (a:Nat)]:=by have:=zaU .u32 v 0 (by omega); rwa[List.drop_zero,←hva] at this
 have c1:(zad .u32 v).tail.take 1=[.int .u32 (x:Nat)]:=by have:=zaU .u32 v 1 (by omega); rwa[List.drop_one,←hvx] at this
 obtain⟨m,hm⟩:∃ m,m=(v.drop 2).take 16:=⟨_,rfl⟩
 have hml:m.length=16:=by rw[hm]; simp[hl]
 have cm:((zad .u32 v).drop 2).take 16=zad .u32 m:=by rw[hm]; simp[zad,List.map_drop,List.map_take]
 have hmk:=zaj (k:=.u32) hml
 have hst:stO v=⟨a,x,m⟩:=by
  rw[hva,hvx,hm]
  simp[stO,List.getD,List.getElem?_eq_getElem (show 0<v.length by omega),List.getElem?_eq_getElem (show 1<v.length by omega)]
 have hz:zad .u32 (zae 18)=.int .u32 0::.int .u32 0::zad .u32 (zae 16):=rfl
 have hz2:(zad .u32 (zae 16)).drop 16=[]:=rfl
 have h0:ofW (wAt v 0)=⟨0,0,0,zae 6⟩:=by rw[zBg]; rfl
 have hz6:zad .u64 (zae 6)=[.int .u64 0,.int .u64 0,.int .u64 0,.int .u64 0,.int .u64 0,.int .u64 0]:=rfl
 simp[hl,htk,c0,c1,cm,hz,hz2,hml,hmk]
 refine W_up 16 (fun i=>[(1,.ptr 0 0),(2,.ptr 1 0),(3,.ptr 2 0),(4,.ptr 3 0),(5,.ptr 4 0),(16,.int .i64 i)])
  (fun i=>[some (.cells (zad .u32 v)),some (.cells (zad .u32 (zae 18))),some (.cells ZD),some (.cells (St.cs ⟨a,x,m⟩)),some (.cells (ofW (wAt v i)).cs)]) (fun _=>True) ?_ ?_
 ·simp[zaa,zac,St.cs,Da.cs,h0,hz,hz6,ZD]
 intro i hi _
 have hok:=zj7 (zkK hl hi) (zpd hv i)
 have h6:=hok.2.2.2.1
 have ht6:=zaj (k:=.u64) h6
 by_cases hlt:i<16
 ·have hw:=zwq (G:=G) (ofW (wAt v i)) (4*i) (v[18+i]'(by omega)) hok (by omega) (hv _ (List.getElem_mem _))
  rw[zuB hl hv hlt] at hw
  have hok2:=zj7 (zkK hl (show i+1≤16 by omega)) (zpd hv (i+1))
  have k6:=hok2.2.2.2.1
  have kt6:=zaj (k:=.u64) k6
  have cg:=zaU .u32 v (18+i) (by omega)
  generalize ofW (wAt v i)=D at hw h6 ht6
  obtain⟨D',hD'⟩:∃ D',D'=ofW (wAt v (i+1)):=⟨_,rfl⟩
  rw[←hD'] at hw k6 kt6
  obtain⟨y,hy⟩:∃ y,y=v[18+i]'(by omega):=⟨_,rfl⟩
  rw[←hy] at hw cg
  have e1:addI .i64 18 (i:Int)=((18+i:Nat):Int):=by rw[show(18:Int)=((18:Nat):Int) from rfl]; exact addN (by omega)
  have e2:mulI .i64 4 (i:Int)=((4*i:Nat):Int):=by unfold mulI; rw[show(4:Int)*(i:Int)=((4*i:Nat):Int) by omega]; exact IntWalk.i64_in _ ⟨by omega,by omega⟩
  have e3:zaP .u32 ((4*i:Nat):Int)=((4*i:Nat):Int):=by unfold zaP; exact IntWalk.u32_in _ ⟨by omega,by omega⟩
  simp[DV,Da.cs,-Int.natCast_mul] at hw
  simp(disch:=omega)[ltT,leTn,e1,e2,e3,Da.cs,h6,ht6,hl,cg,-Int.natCast_add,-Int.natCast_mul]
  refine zab hw ?_
  simp(disch:=omega)[ltT,leTn,hlt,zag,zaa,zac,St.cs,Da.cs,ZD,h6,ht6,k6,kt6,←hD',zhN (k:=.u64) h6,-Int.natCast_add,-Int.natCast_mul]
 ·have hne:i=16:=by omega
  subst hne
  rw[zxJ hl] at h6 ht6 ⊢
  simp[St.cs,Da.cs,ZD,h6,ht6,hml,hmk,hz,hst,SV,DV]
end Go.Ev
/- A window's values are what it makes of a state: plain laws. -/
namespace Go.Ev
open Go Go.RowKit
variable {L L':List Nd} {v:List Nat}
theorem zpf{n:Nat}(h:n<L.length):hasI L (n:Int)=true:=by simp[hasI]; exact h
theorem zka{k:Nat}{x:Int}(e:Ext L L' k)(h:hasI L x=true):hasI L' x=true∧valI v L' x=valI v L x:=by
 obtain⟨h0,h1⟩:0≤x∧x<L.length:=by simpa[hasI] using h
 obtain⟨n,rfl⟩:=Int.eq_ofNat_of_zero_le h0
 have:=e.pre.length_le
 exact⟨zpf (by omega),zeF e (by omega)⟩
theorem Res.has{q:Int×List Nd}{o:Option Nat}(h:Res v q o):hasI q.2 q.1=true∧valI v q.2 q.1=o:=by
 obtain⟨n,h1,h2,h3⟩:=h
 rw[h1]
 exact⟨zpf h2,h3⟩
def pt(t:St):List Nat:=t.a::t.x::t.m
structure PV (v:List Nat) (L:List Nd) (p:List Int) (t:St):Prop where
 len:p.length=18
 val:∀ i,i<18→hasI L (p.getD i 0)=true∧valI v L (p.getD i 0)=some ((pt t).getD i 0)
theorem PV.set{p:List Int}{t t':St}{k i n:Nat}{x:Int}(h:PV v L p t)(e:Ext L L' k)(hx:hasI L' x=true)(hv:valI v L' x=some n)(hi:i<18)(hl:(pt t).length=18)(ht:pt t'=(pt t).set i n):PV v L' (p.set i x) t':=by
 refine⟨by rw[List.length_set]; exact h.len,fun j hj=>?_⟩
 rw[ht,List.getD_eq_getElem?_getD,List.getD_eq_getElem?_getD,List.getElem?_set,List.getElem?_set]
 by_cases hij:i=j
 ·subst hij
  simp only[if_true,h.len,hl,hi,Option.getD_some]
  exact⟨hx,hv⟩
 ·simp only[hij,if_false,←List.getD_eq_getElem?_getD]
  obtain⟨h1,h2⟩:=h.val j hj
  obtain⟨h3,h4⟩:=zka (v:=v) e h1
  exact⟨h3,by rw[h4,h2]⟩
theorem PV.same{p:List Int}{t:St}{k:Nat}(h:PV v L p t)(e:Ext L L' k):PV v L' p t :=
 ⟨h.len,fun j hj=>by obtain⟨h1,h2⟩:=h.val j hj; obtain⟨h3,h4⟩:=zka (v:=v) e h1; exact⟨h3,by rw[h4,h2]⟩⟩
end Go.Ev
/- A window's values, from its front to its end: plain laws. -/
namespace Go.Ev
open Go Go.RowKit
variable {L L':List Nd} {v:List Nat}
def divN(w:List In4)(n:Nat):Nat:=(w.take n).countP fun x=>decide (x.op=60)
structure WV (v:List Nat) (L:List Nd) (p st:List Int) (w:List In4) (d:Da) (t:St):Prop where
 num:st.length=divN w w.length
 ahead:∀ i,i<divN w (runW d w t).2→∃ x n,st[i]?=some x∧hasI L x=true∧valI v L x=some n∧n≠0
 stop:(runW d w t).2<w.length→∃ x,st[divN w (runW d w t).2]?=some x∧hasI L x=true∧valI v L x=some 0
 done:(runW d w t).2=w.length→PV v L p (runW d w t).1
theorem WV.ext{p st:List Int}{w:List In4}{d:Da}{t:St}{k:Nat}(h:WV v L p st w d t)(e:Ext L L' k):WV v L' p st w d t:=by
 have tr:∀{x:Int} {o:Option Nat},hasI L x=true→valI v L x=o→hasI L' x=true∧valI v L' x=o:=fun a b=>by
  obtain⟨h3,h4⟩:=zka (v:=v) e a
  exact⟨h3,by rw[h4,b]⟩
 refine⟨h.num,fun i hi=>?_,fun hl=>?_,fun hl=>(h.done hl).same e⟩
 ·obtain⟨x,n,a,b,c,d⟩:=h.ahead i hi
  obtain⟨h1,h2⟩:=tr b c
  exact⟨x,n,a,h1,h2,d⟩
 ·obtain⟨x,a,b,c⟩:=h.stop hl
  obtain⟨h1,h2⟩:=tr b c
  exact⟨x,a,h1,h2⟩
end Go.Ev
/- WindowValues. -/
namespace Go.Ev
open Go Go.RowKit
variable {G:Tbl}
theorem cs_cl(s:St)(n:Nat):clL n s.cs=s.cs:=by simp[St.cs,clL,V.cl,zan,zad,Function.comp_def]
theorem zeh(d:Da)(n:Nat):clL n d.cs=d.cs:=by simp[Da.cs,clL,V.cl,zan,zad,Function.comp_def]
theorem zjf(s:St):s.cs.map V.nf1=s.cs:=by simp[St.cs,zad,Function.comp_def,V.nf1]
theorem zhA(d:Da):d.cs.map V.nf1=d.cs:=by simp[Da.cs,zad,Function.comp_def,V.nf1]
theorem ziz{s:St}(h:s.ok):s.cs.length=18:=by simp[St.cs,h.2.2.1]
theorem zkL{d:Da}(h:d.ok):d.cs.length=9:=by simp[Da.cs,h.2.2.2.1]
end Go.Ev
/- Whether two windows differ: decide.Differs, hurdleref18.Differs. -/
namespace Go.Ev
open Go Go.RowKit
variable {G:Tbl}
def zge(live p:Nat):Bool:=live/2^p%2==1
def zdR(live:Nat)(x y:List Nat)(p:Nat):Bool:=zge live p&&(x.getD p 0 !=y.getD p 0)
def zmd(live:Nat)(x y:List Nat):Bool:=(List.range 18).any (zdR live x y)
def zfn(v w:List In4)(live:Nat)(s:St)(d:Da):Bool :=
 if(runW d v s).2<v.length∨(runW d w s).2<w.length then !(decide ((runW d v s).2<v.length)&&decide ((runW d w s).2<w.length))
 else zmd live (asgL (runW d v s).1 d) (asgL (runW d w s).1 d)
theorem zrt[HasDecDf G](live p:Nat)(hl:live<4294967296)(hp:p≤31):FP G 307 [.int .u32 live,.int .i64 p] (.bool (zge live p)):=by
 refine zak HasDecDf.h_decide_in (Nat.le_of_ble_eq_true rfl) ?_
 have h1:live/2^p<4294967296:=Nat.lt_of_le_of_lt (Nat.div_le_self _ _) hl
 have h2:(((live/2^p%2:Nat):Int)==1)=zge live p:=by
  unfold zge
  rw[Bool.eq_iff_iff,beq_iff_eq,beq_iff_eq]; omega
 have h3:((p:Int)<0)=False:=eq_false (by omega)
 simp(disch:=omega)[zi5,zva h1,h2,h3,-Int.natCast_ediv,-Int.natCast_emod,-Int.natCast_pow]
theorem zru{live:Nat}{x y:List Nat}{i:Nat}(hi:i<18)(h:zdR live x y i=true):zmd live x y=true :=
 List.any_eq_true.2 ⟨i,List.mem_range.2 hi,h⟩
theorem zsW{live:Nat}{x y:List Nat}(h:∀ j<18,zdR live x y j=false):zmd live x y=false:=by
 rw[zmd,List.any_eq_false]
 intro j hj
 rw[h j (List.mem_range.1 hj)]; decide
theorem zrv[HasWd G][HasNeg G][HasIns G][HasCheck G][HasData G][HasStep G][HasWRight G][HasWinRun G][HasWinAsg G][HasDecDf G](v w:List In4)(live:Nat)(s:St)(d:Da)(hf:v.length≤maxLen)(hg:w.length≤maxLen)
  (hk:∀ x∈v,x.k<4294967296) (hkw:∀ x∈w,x.k<4294967296) (hlv:live<4294967296) (hs:s.ok) (hd:d.ok) :
  FP G 308 [FL v,FL w,.int .u32 live,SV s,DV d] (.bool (winB v&&winB w&&zfn v w live s d)):=by
 refine zak HasDecDf.h_decide_Differs (Nat.le_of_ble_eq_true rfl) ?_
 have hrv:=zb1 (G:=G) v hf hk
 have hrw:=zb1 (G:=G) w hg hkw
 have sl:=ziz hs
 have dl:=zkL hd
 have st:=List.take_of_length_le (i:=18) (l:=s.cs) (by omega)
 have dt:=List.take_of_length_le (i:=9) (l:=d.cs) (by omega)
 have sd:s.cs.drop 18=[]:=List.drop_eq_nil_of_le (by omega)
 have dd:d.cs.drop 9=[]:=List.drop_eq_nil_of_le (by omega)
 simp only[FL] at hrv hrw
 simp[FL,SV,DV]
 refine zab hrv ?_
 cases hv:winB v with
 | false=>simp
 | true =>
  simp
  refine zab hrw ?_
  cases hw:winB w with
  | false=>simp
  | true =>
   have ha:=znB (G:=G) v s d hf hk hs hd hv
   have hb:=znB (G:=G) w s d hg hkw hs hd hw
   have hos:=zkJ hd v s hs hk
   have hot:=zkJ hd w s hs hkw
   have hn1:=zkI d v s
   have hn2:=zkI d w s
   have hD:zfn v w live s d=zfn v w live s d:=rfl
   conv at hD=>rhs; unfold zfn
   obtain⟨A,hA⟩:∃ A,A=(runW d v s).1:=⟨_,rfl⟩
   obtain⟨n,hn⟩:∃ n,n=(runW d v s).2:=⟨_,rfl⟩
   obtain⟨B,hB⟩:∃ B,B=(runW d w s).1:=⟨_,rfl⟩
   obtain⟨m,hm⟩:∃ m,m=(runW d w s).2:=⟨_,rfl⟩
   rw[←hA,←hn] at ha
   rw[←hB,←hm] at hb
   rw[←hA,←hB,←hn,←hm] at hD
   rw[←hA] at hos
   rw[←hB] at hot
   rw[←hn] at hn1
   rw[←hm] at hn2
   rw[hD]
   have al:=ziz hos
   have bl:=ziz hot
   have at':=List.take_of_length_le (i:=18) (l:=A.cs) (by omega)
   have bt':=List.take_of_length_le (i:=18) (l:=B.cs) (by omega)
   have x1:=zj9 (G:=G) A d hos hd
   have x2:=zj9 (G:=G) B d hot hd
   have l1:(asgL A d).length=34:=by rw[←zmL hd]; exact zlx hos hd (by omega)
   have l2:(asgL B d).length=34:=by rw[←zmL hd]; exact zlx hot hd (by omega)
   obtain⟨X,hX⟩:∃ X,X=asgL A d:=⟨_,rfl⟩
   obtain⟨Y,hY⟩:∃ Y,Y=asgL B d:=⟨_,rfl⟩
   rw[←hX] at x1 l1
   rw[←hY] at x2 l2
   simp only[FL,SV,DV] at ha hb x1 x2
   simp[sl,dl,st,dt,sd,dd,al,bl,at',bt',cs_cl,zeh,zjf,zhA]
   refine zab ha ?_
   simp[sl,dl,st,dt,sd,dd,al,bl,at',bt',cs_cl,zeh,zjf,zhA]
   refine zab hb ?_
   have c1:((n:Int)<(v.length:Int))=(n<v.length):=propext (by omega)
   have c2:((m:Int)<(w.length:Int))=(m<w.length):=propext (by omega)
   simp[sl,dl,st,dt,sd,dd,al,bl,at',bt',cs_cl,zeh,zjf,zhA,zaa,c1,c2]
   by_cases e1:n<v.length
   ·by_cases e2:m<w.length
    ·simp[e1,e2]
    ·simp[e1,e2]
   by_cases e2:m<w.length
   ·simp[e1,e2]
   simp[e1,e2,sl,dl,st,dt,sd,dd,al,bl,at',bt',cs_cl,zeh,zjf,zhA,zaa]
   refine zab x1 ?_
   simp[sl,dl,st,dt,sd,dd,al,bl,at',bt',cs_cl,zeh,zjf,zhA,zaa]
   refine zab x2 ?_
   have xt:=List.take_of_length_le (i:=34) (l:=zad .u32 X) (by simp; omega)
   have yt:=List.take_of_length_le (i:=34) (l:=zad .u32 Y) (by simp; omega)
   have xd:(zad .u32 X).drop 34=[]:=List.drop_eq_nil_of_le (by simp; omega)
   have yd:(zad .u32 Y).drop 34=[]:=List.drop_eq_nil_of_le (by simp; omega)
   simp[sl,dl,st,dt,sd,dd,al,bl,at',bt',cs_cl,zeh,zjf,zhA,zaa,l1,l2,xt,yt,xd,yd]
   refine W_up 18 (fun i=>[(2,.int .u32 live),(17,.ptr 4 0),(18,.ptr 5 0),(63,.int .i64 i)])
    (fun i=>[some (.cells s.cs),some (.cells d.cs),some (.cells A.cs),some (.cells B.cs),some (.cells (zad .u32 X)),some (.cells (zad .u32 Y))]) (fun i=>∀ j<i,zdR live X Y j=false) ?_ ?_
   ·simp[zaa,zac,cs_cl,zeh]
   intro i hi hp
   by_cases hlt:i<18
   ·have hin:=zrt (G:=G) live i hlv (by omega)
    have g1:=zaU .u32 X i (by omega)
    have g2:=zaU .u32 Y i (by omega)
    have gx:X.getD i 0=X[i]'(by omega):=by simp[List.getD,List.getElem?_eq_getElem (show i<X.length by omega)]
    have gy:Y.getD i 0=Y[i]'(by omega):=by simp[List.getD,List.getElem?_eq_getElem (show i<Y.length by omega)]
    have hda:zdR live X Y i=zdR live X Y i:=rfl
    conv at hda=>rhs; rw[zdR,gx,gy]
    obtain⟨p,hpx⟩:∃ p,p=X[i]'(by omega):=⟨_,rfl⟩
    obtain⟨q,hqx⟩:∃ q,q=Y[i]'(by omega):=⟨_,rfl⟩
    rw[←hpx,←hqx] at hda
    rw[←hpx] at g1
    rw[←hqx] at g2
    simp(disch:=omega)[ltT,hlt]
    refine zab hin ?_
    cases hb:zge live i with
    | false =>
     rw[hb,Bool.false_and] at hda
     have hp':∀ j<i+1,zdR live X Y j=false:=fun j hj=>by
      rcases Nat.lt_succ_iff_lt_or_eq.1 hj with h|rfl
      ·exact hp j h
      ·exact hda
     simp(disch:=omega)[ltT,hlt,zag,zaa,zac,cs_cl,zeh,-Int.natCast_add]
     exact hp'
    | true =>
     rw[hb,Bool.true_and] at hda
     by_cases hpq:p=q
     ·have hda':zdR live X Y i=false:=by rw[hda,hpq]; simp
      have hp':∀ j<i+1,zdR live X Y j=false:=fun j hj=>by
       rcases Nat.lt_succ_iff_lt_or_eq.1 hj with h|rfl
       ·exact hp j h
       ·exact hda'
      simp(disch:=omega)[ltT,leTn,hlt,l1,l2,g1,g2,hpq,zag,zaa,zac,cs_cl,zeh,-Int.natCast_add]
      exact hp'
     ·have hda':zdR live X Y i=true:=by rw[hda]; simp[hpq]
      have:=zru hlt hda'
      simp(disch:=omega)[ltT,leTn,hlt,l1,l2,g1,g2,bneT (show(p:Int)≠q by omega),zaa,this,hpq,←hX,←hY]
   ·have hne:i=18:=by omega
    subst hne
    simp[zsW hp,←hX,←hY]
end Go.Ev
/- Values as they were made, and in the book. -/
namespace Go.Ev
open Go Go.RowKit
variable {L L':List Nd} {v:List Nat}
structure MI (v:List Nat) (s:MS):Prop where
 inv:Inv s.L
 len:s.ids.length=s.made.length
 ok:mdOk s.made
 rel:∀(i:Nat) (x:Int) (a:Md) (o:Option Nat),s.ids[i]?=some x→s.made[i]?=some a→(refs v s.made)[i]?=some o →
  a.kind=4∧x=-1∧o=none∨a.kind≠4∧∃ n:Nat,x=n∧n<s.L.length∧valI v s.L n=o
theorem MI.there{s:MS}(h:MI v s){x:Int}(hx:zbU s.made x=true):∃ n m:Nat,x=n∧n<s.made.length∧atI s.ids x=m∧m<s.L.length∧valI v s.L m=(refs v s.made)[n]?.join:=by
 simp only[zbU,Bool.and_eq_true,decide_eq_true_eq] at hx
 obtain⟨⟨h0,h1⟩,h2⟩:=hx
 obtain⟨n,rfl⟩:=Int.eq_ofNat_of_zero_le h0
 have hn:n<s.made.length:=by omega
 obtain⟨a,ha⟩:∃ a,s.made[n]?=some a:=⟨_,zal hn⟩
 obtain⟨y,hy⟩:∃ y,s.ids[n]?=some y:=⟨_,zal (by rw[h.len]; exact hn)⟩
 obtain⟨o,ho⟩:∃ o,(refs v s.made)[n]?=some o:=⟨_,zal (by rw[zlF]; exact hn)⟩
 rw[Int.toNat_natCast,ha] at h2
 simp at h2
 rcases h.rel n y a o hy ha ho with⟨h4,_⟩|⟨_,m,hm,hml,hv⟩
 ·exact absurd h4 h2
 ·refine⟨n,m,rfl,hn,?_,hml,?_⟩
  ·rw[atI,if_pos ⟨h0,by rw[h.len]; exact h1⟩,Int.toNat_natCast,hy,hm]; rfl
  ·rw[hv,ho]; rfl
theorem MI.not_there{s:MS}(h:MI v s){x:Int}(hx:zbU s.made x=false):hasI s.L (atI s.ids x)=false:=by
 rw[atI]
 split
 ·rename_i hr
  obtain⟨n,rfl⟩:=Int.eq_ofNat_of_zero_le hr.1
  have hn:n<s.made.length:=by rw[←h.len]; omega
  obtain⟨a,ha⟩:∃ a,s.made[n]?=some a:=⟨_,zal hn⟩
  obtain⟨y,hy⟩:∃ y,s.ids[n]?=some y:=⟨_,zal (by rw[h.len]; exact hn)⟩
  obtain⟨o,ho⟩:∃ o,(refs v s.made)[n]?=some o:=⟨_,zal (by rw[zlF]; exact hn)⟩
  have h4:a.kind=4:=by
   have:a.kind≠4→zbU s.made n=true:=fun hk=>by simp only[zbU,Int.toNat_natCast,ha]; simp[hk,hn]
   by_cases hk:a.kind=4
   ·exact hk
   ·rw[this hk] at hx; cases hx
  rcases h.rel n y a o hy ha ho with⟨_,h5,_⟩|⟨h5,_⟩
  ·rw[Int.toNat_natCast,hy,h5]; rfl
  ·exact absurd h4 h5
 ·rfl
theorem zws{kind x y:Int}(h:¬((doW kind 0 1).2=true∧hasI L x=true∧hasI L y=true)):bAlu L kind x y=(-1,L):=by rw[bAlu,if_neg h]
theorem MI.step{s:MS}(h:MI v s)(hv:v.length=34)(hvw:∀ c∈v,c<4294967296){a:Md}(hc:a.c<4294967296):MI v (zhW s a):=by
 have e:=zuZ (s:=s) (a:=a) h.inv hc
 have hln:=h.len
 have rl:=zlF (v:=v) s.made
 -- it is enough to look at the new one
 have main:∀ o:Option Nat,rval v (refs v s.made) (zba s.made a)=o →
   ((zba s.made a).kind=4∧(zcJ s a).1=-1∧o=none∨(zba s.made a).kind≠4∧Res v (zcJ s a) o) →
   ((zba s.made a).c<4294967296∧((zba s.made a).kind=0∨(zba s.made a).kind=1∧0≤(zba s.made a).i∧(zba s.made a).i<34∨(zba s.made a).kind=2∧0≤(zba s.made a).x∧(zba s.made a).x<s.made.length∧0≤(zba s.made a).y∧(zba s.made a).y<s.made.length∨(zba s.made a).kind=3∧0≤(zba s.made a).x∧(zba s.made a).x<s.made.length∨(zba s.made a).kind=4)) →
   MI v (zhW s a):=fun o ho hr hm=>by
  refine⟨e.inv,by simp[zhW,hln],fun i b hb=>?_,fun i x b w hx hb hw=>?_⟩
  ·simp only[zhW] at hb
   by_cases hi:i<s.made.length
   ·rw[List.getElem?_append_left hi] at hb
    exact h.ok i b hb
   ·have hl:=(List.getElem?_eq_some_iff.1 hb).1
    simp at hl
    obtain rfl:i=s.made.length:=by omega
    simp at hb
    subst hb
    exact hm
  ·simp only[zhW] at hx hb hw ⊢
   rw[ztp,ho] at hw
   by_cases hi:i<s.made.length
   ·rw[List.getElem?_append_left hi] at hb
    rw[List.getElem?_append_left (by omega)] at hx
    rw[List.getElem?_append_left (by omega)] at hw
    rcases h.rel i x b w hx hb hw with h1|⟨h1,n,h2,h3,h4⟩
    ·exact .inl h1
    ·exact .inr ⟨h1,n,h2,Nat.lt_of_lt_of_le h3 e.pre.length_le,by rw[←h4]; exact zeF e h3⟩
   ·have hl:=(List.getElem?_eq_some_iff.1 hb).1
    simp at hl
    obtain rfl:i=s.made.length:=by omega
    simp at hb
    rw[List.getElem?_append_right (by omega),hln,Nat.sub_self] at hx
    rw[List.getElem?_append_right (by omega),rl,Nat.sub_self] at hw
    simp at hx hw
    subst hb; subst hx; subst hw
    rcases hr with h1|⟨h1,n,h2,h3,h4⟩
    ·exact .inl h1
    ·exact .inr ⟨h1,n,h2,h3,h4⟩
 have none4:zba s.made a=noMd→(zcJ s a).1=-1→MI v (zhW s a):=fun h1 h2=>by
  refine main none (by rw[h1]; rfl) (.inl ⟨by rw[h1]; rfl,h2,rfl⟩) ⟨by rw[h1]; exact(by decide:(0:Nat)<4294967296),by rw[h1]; exact .inr (.inr (.inr (.inr rfl)))⟩
 by_cases k0:a.kind=0
 ·have hn:zba s.made a=⟨0,0,0,0,0,a.c⟩:=by rw[zba,if_pos k0]
  have hR:zcJ s a=putN s.L (zas (a.c::zae 34)):=by rw[zcJ,if_pos k0]
  refine main (some a.c) (by rw[hn]; rfl) (.inr ⟨by rw[hn]; simp,by rw[hR]; exact znT h.inv hv hc⟩) ⟨by rw[hn]; exact hc,by rw[hn]; exact .inl rfl⟩
 by_cases k1:a.kind=1
 ·have hR:zcJ s a=varN s.L a.i:=by rw[zcJ,if_neg k0,if_pos k1]
  by_cases hi:0≤a.i∧a.i<34
  ·have hn:zba s.made a=⟨1,a.i,0,0,0,0⟩:=by rw[zba,if_neg k0,if_pos ⟨k1,hi⟩]
   refine main (some (v[a.i.toNat]?.getD 0)) (by rw[hn]; rfl) (.inr ⟨by rw[hn]; simp,by rw[hR]; exact zwM h.inv hv hvw hi.1 hi.2⟩) ⟨by rw[hn]; exact(by decide:(0:Nat)<4294967296),by rw[hn]; exact .inr (.inl ⟨rfl,hi⟩)⟩
  ·refine none4 ?_ (by rw[hR,varN,if_neg hi])
   rw[zba,if_neg k0,if_neg (fun hh=>hi hh.2),if_neg (by omega),if_neg (by omega)]
 by_cases k2:a.kind=2
 ·have hR:zcJ s a=bAlu s.L a.op (atI s.ids a.x) (atI s.ids a.y):=by rw[zcJ,if_neg k0,if_neg k1,if_pos k2]
  by_cases hall:(doW a.op 0 1).2=true∧zbU s.made a.x=true∧zbU s.made a.y=true
  ·obtain⟨hk,hx,hy⟩:=hall
   have hn:zba s.made a=⟨2,0,a.op,a.x,a.y,0⟩:=by rw[zba,if_neg k0,if_neg (fun hh=>k1 hh.1),if_pos ⟨k2,hk,hx,hy⟩]
   obtain⟨nx,mx,ex,lx,ax,bx,vx⟩:=h.there hx
   obtain⟨ny,my,ey,ly,ay,b_y,vy⟩:=h.there hy
   have r:=zqW (v:=v) (kind:=a.op) (x:=atI s.ids a.x) (y:=atI s.ids a.y) h.inv hv hvw hk (by rw[ax]; simp[hasI]; exact bx) (by rw[ay]; simp[hasI]; exact b_y)
   rw[ax,ay,vx,vy] at r
   refine main (aluV a.op (refs v s.made)[nx]?.join (refs v s.made)[ny]?.join) ?_ (.inr ⟨by rw[hn]; simp,by rw[hR,ax,ay]; exact r⟩) ⟨by rw[hn]; exact(by decide:(0:Nat)<4294967296),by rw[hn]; exact .inr (.inr (.inl ⟨rfl,by simp; omega,by simp; omega,by simp; omega,by simp; omega⟩))⟩
   rw[hn,ex,ey]; rfl
  ·refine none4 ?_ ?_
   ·rw[zba,if_neg k0,if_neg (fun hh=>k1 hh.1),if_neg (fun hh=>hall hh.2),if_neg (by omega)]
   ·rw[hR,zws]
    rintro⟨g1,g2,g3⟩
    refine hall ⟨g1,?_,?_⟩
    ·cases e:zbU s.made a.x with
     | true=>rfl
     | false=>rw[h.not_there e] at g2; cases g2
    ·cases e:zbU s.made a.y with
     | true=>rfl
     | false=>rw[h.not_there e] at g3; cases g3
 by_cases k3:a.kind=3
 ·have hR:zcJ s a=bNeg s.L (atI s.ids a.x):=by rw[zcJ,if_neg k0,if_neg k1,if_neg k2,if_pos k3]
  cases hx:zbU s.made a.x with
  | true =>
   have hn:zba s.made a=⟨3,0,0,a.x,0,0⟩:=by rw[zba,if_neg k0,if_neg (fun hh=>k1 hh.1),if_neg (fun hh=>k2 hh.1),if_pos ⟨k3,hx⟩]
   obtain⟨nx,mx,ex,lx,ax,bx,vx⟩:=h.there hx
   have r:=zwN (v:=v) (x:=atI s.ids a.x) h.inv hv hvw (by rw[ax]; simp[hasI]; exact bx)
   rw[ax,vx] at r
   refine main (((refs v s.made)[nx]?.join).map negW) ?_ (.inr ⟨by rw[hn]; simp,by rw[hR,ax]; exact r⟩) ⟨by rw[hn]; exact(by decide:(0:Nat)<4294967296),by rw[hn]; exact .inr (.inr (.inr (.inl ⟨rfl,by simp; omega,by simp; omega⟩)))⟩
   rw[hn,ex]; rfl
  | false =>
   refine none4 ?_ ?_
   ·rw[zba,if_neg k0,if_neg (fun hh=>k1 hh.1),if_neg (fun hh=>k2 hh.1),if_neg (by simp[hx])]
   ·rw[hR,bNeg,if_neg (by simp[h.not_there hx])]
 ·refine none4 ?_ ?_
  ·rw[zba,if_neg k0,if_neg (fun hh=>k1 hh.1),if_neg (fun hh=>k2 hh.1),if_neg (fun hh=>k3 hh.1)]
  ·rw[zcJ,if_neg k0,if_neg k1,if_neg k2,if_neg k3]
theorem MI.zero:MI v ⟨[],[],[]⟩:=⟨Inv.nil,rfl,fun i a h=>by simp at h,fun i x a o h=>by simp at h⟩
theorem MI.all(hv:v.length=34)(hvw:∀ c∈v,c<4294967296):∀(l:List Md) {s:MS},MI v s→(∀ a∈l,a.c<4294967296)→MI v (zwK s l)
 | [],_,h,_=>h
 | a::l,s,h,hc=>MI.all hv hvw l (h.step hv hvw (hc a (by simp))) fun x hx=>hc x (by simp[hx])
end Go.Ev
/- What tells two values zgQ. -/
namespace Go.Ev
open Go Go.RowKit
variable {G:Tbl}
variable {H:Heap} {b z m:Nat} {L:List Nd}
def zme(f g:List Nat):Option Nat:=(List.range 34).find? fun i=>decide (f.getD (i+1) 0≠g.getD (i+1) 0)
def zcx(f g:List Nat):List Nat×Bool:=if f.headD 0≠g.headD 0 then(zae 34,true) else match zme f g with
 | some i=>((zae 34).set i 1,true)
 | none=>(zae 34,false)
theorem zrw(f g:List Nat):(zcx f g).1.length=34:=by
 rw[zcx]; split
 ·simp
 ·split<;>simp
theorem zsX(f g:List Nat):∀ x∈(zcx f g).1,x<4294967296:=by
 rw[zcx]; split
 ·exact zbA 34
 ·split
  ·intro x hx
   rcases List.mem_or_eq_of_mem_set hx with h|rfl
   ·exact zbA 34 x h
   ·decide
  ·exact zbA 34
theorem zsY[HasAffApart G](f g:List Nat)(hf:f.length=35)(hg:g.length=35):FP G 255 [.agg (zad .u32 f),.agg (zad .u32 g)] (.tup [.agg (zad .u32 (zcx f g).1),.bool (zcx f g).2]):=by
 refine zak HasAffApart.h_affine_Apart (Nat.le_of_ble_eq_true rfl) ?_
 obtain⟨c,t,rfl⟩:∃ c t,f=c::t:=by cases f with|nil=>simp at hf|cons c t=>exact⟨c,t,rfl⟩
 obtain⟨d,u,rfl⟩:∃ c t,g=c::t:=by cases g with|nil=>simp at hg|cons c t=>exact⟨c,t,rfl⟩
 have ht:t.length=34:=by simpa using hf
 have hu:u.length=34:=by simpa using hg
 have hc:zad .u32 (c::t)=.int .u32 (c:Int)::zad .u32 t:=rfl
 have hd:zad .u32 (d::u)=.int .u32 (d:Int)::zad .u32 u:=rfl
 have htt:=zaj (k:=.u32) ht
 have htu:=zaj (k:=.u32) hu
 have dr1:∀(i:Nat) (x:V) (l:List V),(x::l).drop (1+i)=l.drop i:=fun i x l=>by rw[Nat.add_comm,List.drop_succ_cons]
 have z0:(zad .u32 (zae 34)).drop 34=[]:=rfl
 by_cases hcd:c=d
 case neg =>
  have hn:((c:Int)==(d:Int))=false:=beqF (by omega)
  have hR:zcx (c::t) (d::u)=(zae 34,true):=by simp[zcx,hcd]
  simp[-List.reduceReplicate,hc,hd,ht,hu,htt,htu,hn,z0,hR,bneT,hcd]
 subst hcd
 have bne:((c:Int) !=(c:Int))=false:=by simp
 simp[-List.reduceReplicate,hc,hd,ht,hu,htt,htu,z0]
 refine W_up 34 (fun i=>[(3,.ptr 1 0),(4,.ptr 2 0),(6,.ptr 3 0),(16,.agg (zad .u32 t)),(17,.int .i64 i)])
  (fun i=>[some (.cells (.int .u32 (c:Int)::zad .u32 t)),some (.cells (.int .u32 (c:Int)::zad .u32 u)),some (.cells (zad .u32 (zae 34))),some (.cells (zad .u32 (zae 34)))]) (fun i=>∀ j,j<i→t.getD j 0=u.getD j 0) ?_ ?_
 ·simp[zaa,zac,clL,V.cl]
 intro i hi hp
 by_cases hlt:i<34
 ·have q1:=zd1 .u32 (zal (show i<t.length by omega))
  have q2:=zd1 .u32 (zal (show i<u.length by omega))
  have e1:t.getD i 0=t[i]'(by omega):=by rw[List.getD_eq_getElem?_getD,zal (by omega)]; rfl
  have e2:u.getD i 0=u[i]'(by omega):=by rw[List.getD_eq_getElem?_getD,zal (by omega)]; rfl
  by_cases he:t[i]'(by omega)=u[i]'(by omega)
  ·have hp':∀ j,j<i+1→t.getD j 0=u.getD j 0:=fun j hj=>by
    by_cases e:j=i
    ·subst e; rw[e1,e2,he]
    ·exact hp j (by omega)
   simp(disch:=omega)[ltT,ltF,leF,leFn,leTn,hlt,ht,hu,q1,q2,dr1,he,zag,-Int.natCast_add,zaa,zac,clL,V.cl]
   simpa using hp'
  ·have hb:((t[i]'(by omega):Nat):Int)≠((u[i]'(by omega):Nat):Int):=by omega
   have hfd:zme (c::t) (c::u)=some i:=by
    rw[zme,List.find?_range_eq_some]
    refine⟨?_,List.mem_range.2 hlt,fun j hj=>?_⟩
    ·simp only[List.getD_cons_succ,e1,e2]; simpa using he
    ·have:=hp j hj
     simp only[List.getD_cons_succ]; simpa using this
   have hR:zcx (c::t) (c::u)=((zae 34).set i 1,true):=by simp[zcx,hfd]
   have cs:=zbs .u32 (zae 34) i 1 (by simpa using hlt)
   have hts:(zad .u32 ((zae 34).set i 1)).take 34=zad .u32 ((zae 34).set i 1):=zaj (by simp)
   simp(disch:=omega)[-List.reduceReplicate,ltT,ltF,leF,leFn,leTn,hlt,ht,hu,q1,q2,dr1,bneT hb,hR,z0]
   simp at cs
   simp(disch:=omega)[-List.reduceReplicate,cs,hts,z0,leTn,hlt]
 ·obtain rfl:i=34:=by omega
  have hfd:zme (c::t) (c::u)=none:=by
   rw[zme,List.find?_eq_none]
   intro j hj
   have:=hp j (List.mem_range.1 hj)
   simp only[List.getD_cons_succ]; simpa using this
  have hR:zcx (c::t) (c::u)=(zae 34,false):=by simp[zcx,hfd]
  simp[-List.reduceReplicate,hR,z0]
theorem zsZ(M:List Int)(p:Int→Bool):∀ w∈asgn M p,w<4294967296:=by
 intro w hw
 simp only[asgn,List.mem_map] at hw
 obtain⟨i,_,rfl⟩:=hw
 split<;>omega
theorem zrx(fv gv:List Int)(ft gt:List Nat):(zcq fv gv ft gt).1.length=34:=by
 simp only[zcq]
 split
 ·split<;>simp[asgn]
 ·simp
theorem zs0(fv gv:List Int)(ft gt:List Nat):∀ x∈(zcq fv gv ft gt).1,x<4294967296:=by
 simp only[zcq]
 split
 ·split
  ·exact zsZ _ _
  ·exact zbA 34
 ·exact zbA 34
noncomputable def apN(a c:Nd):List Nat×Bool:=if a.kind=0∧c.kind=0 then zcx a.f c.f else match asB a,asB c with
 | some p,some q=>zcq p.1 q.1 p.2 q.2
 | _,_=>(zae 34,false)
noncomputable def apB(L:List Nd)(x y:Int):List Nat×Bool:=if hasI L x=true∧hasI L y=true∧x≠y then(match L[x.toNat]?,L[y.toNat]? with
 | some a,some c=>apN a c
 | _,_=>(zae 34,false)) else(zae 34,false)
theorem zqC(a c:Nd):(apN a c).1.length=34∧∀ x∈(apN a c).1,x<4294967296:=by
 rw[apN]
 split
 ·exact⟨zrw _ _,zsX _ _⟩
 ·split
  ·exact⟨zrx _ _ _ _,zs0 _ _ _ _⟩
  ·exact⟨by simp,zbA 34⟩
theorem zqD(L:List Nd)(x y:Int):(apB L x y).1.length=34∧∀ c∈(apB L x y).1,c<4294967296:=by
 rw[apB]
 split
 ·split
  ·exact zqC _ _
  ·exact⟨by simp,zbA 34⟩
 ·exact⟨by simp,zbA 34⟩
theorem zxK{x y:Nat}{a c:Nd}(hx:L[x]?=some a)(hy:L[y]?=some c)(hne:x≠y):apB L x y=apN a c:=by
 have h1:=(List.getElem?_eq_some_iff.1 hx).1
 have h2:=(List.getElem?_eq_some_iff.1 hy).1
 rw[apB,if_pos ⟨by simp[hasI]; exact h1,by simp[hasI]; exact h2,by omega⟩,Int.toNat_natCast,Int.toNat_natCast,hx,hy]
theorem zwt[HasAffApart G][HasAffine G][hA:HasBitsA G][HasSym G][HasSymApart G](x y:Int)(h:Bk H b z m L)(hi:Inv L):SF G 277 [.ptr b 0,.int .i64 x,.int .i64 y] H (.tup [.agg (zad .u32 (apB L x y).1),.bool (apB L x y).2]) H:=by
 haveI:HasBits G:=hA.toHasBits
 refine zbz HasSymApart.h_sym_Book_Apart (Nat.le_of_ble_eq_true rfl) ?_
 obtain⟨Z,hZ⟩:∃ Z,Z=zad .u32 (zae 34):=⟨_,rfl⟩
 have lZ:Z.length=34:=by rw[hZ]; simp
 have dZ:Z.drop 34=[]:=List.drop_eq_nil_of_le (by omega)
 have tZ:Z.take 34=Z:=List.take_of_length_le (by omega)
 have kZ:∀ n,clL n Z=Z:=fun n=>by rw[hZ]; simp
 have hRn:∀ n,Option.map (Blk.cl n) (some (.cells Z))=some (.cells Z):=fun n=>by simp[Blk.cl,kZ]
 have h2:Bk (H++[some (.cells Z),some (.cells Z)]) b z m L:=h.app fun n=>by simp[Blk.cl,kZ]
 have hs2:=h2.shut.self
 have hsh:=h.shut.back
 simp at hs2
 simp[←hZ,-List.reduceReplicate]
 refine zai (zfr x h2) ?_
 cases hx:hasI L x with
 | false =>
  have hR:apB L x y=(zae 34,false):=by rw[apB,if_neg (by simp[hx])]
  simp[hR,←hZ,lZ,dZ,tZ,ap0,apk,set0,setk,hs2,hsh,kZ]
 | true =>
  simp[hs2]
  refine zai (zfr y h2) ?_
  cases hy:hasI L y with
  | false =>
   have hR:apB L x y=(zae 34,false):=by rw[apB,if_neg (by simp[hy])]
   simp[hR,←hZ,lZ,dZ,tZ,ap0,apk,set0,setk,hs2,hsh,kZ]
  | true =>
   by_cases hxy:x=y
   ·subst hxy
    have hR:apB L x x=(zae 34,false):=by rw[apB,if_neg (by simp)]
    simp[hR,←hZ,lZ,dZ,tZ,ap0,apk,set0,setk,hs2,hsh,kZ]
   have hbe:(x==y)=false:=beqF hxy
   obtain⟨hx0,hx1⟩:0≤x∧x<L.length:=by simpa[hasI] using hx
   obtain⟨hy0,hy1⟩:0≤y∧y<L.length:=by simpa[hasI] using hy
   obtain⟨xn,rfl⟩:=Int.eq_ofNat_of_zero_le hx0
   obtain⟨yn,rfl⟩:=Int.eq_ofNat_of_zero_le hy0
   obtain⟨a,ha⟩:∃ a,L[xn]?=some a:=⟨_,zal (by omega)⟩
   obtain⟨c,hc⟩:∃ c,L[yn]?=some c:=⟨_,zal (by omega)⟩
   have hga:=hi.good _ _ ha
   have hgc:=hi.good _ _ hc
   have hR:apB L xn yn=apN a c:=zxK ha hc (fun e=>hxy (by rw[e]))
   have hRl:=zqC a c
   rw[hR]
   have hd35:(zad .u32 (zae 35)).drop 35=[]:=rfl
   have ta:=zaj (k:=.u32) hga.1.1
   have tc:=zaj (k:=.u32) hgc.1.1
   have hb':∀ r:Heap,(∀ n,r.map (Option.map (Blk.cl n))=r)→Bk (H++some (.cells Z)::some (.cells Z)::r) b z m L:=fun r hr=>h.app fun n=>by simp[Blk.cl,kZ,hr n]
   have hs':∀ r:Heap,(∀ n,r.map (Option.map (Blk.cl n))=r)→zac (H.length+(r.length+1+1)) (H++some (.cells Z)::some (.cells Z)::r)=H++some (.cells Z)::some (.cells Z)::r:=fun r hr=>by
    have:=(hb' r hr).shut.self
    simpa using this
   simp[hbe,hxy,hs2,-List.reduceReplicate]
   refine zai (zgf xn a (hb' [none] fun n=>by simp) ha) ?_
   have s1:=hs' [some (.cells (zad .u32 a.f))] fun n=>by simp[Blk.cl]
   simp at s1
   simp[hga.1.1,ta,hd35,ap0,apk,set0,setk,s1]
   refine zai (zgf yn c (hb' [some (.cells (zad .u32 a.f)),none] fun n=>by simp[Blk.cl]) hc) ?_
   have s2:=hs' [some (.cells (zad .u32 a.f)),some (.cells (zad .u32 c.f))] fun n=>by simp[Blk.cl]
   simp at s2
   simp[hga.1.1,ta,hgc.1.1,tc,hd35,ap0,apk,set0,setk,s2]
   obtain⟨A,hA'⟩:∃ A,A=apN a c:=⟨_,rfl⟩
   rw[←hA'] at hRl ⊢
   have tA:=zaj (k:=.u32) hRl.1
   by_cases hk:a.kind=0∧c.kind=0
   ·have hAe:A=zcx a.f c.f:=by rw[hA',apN,if_pos hk]
    have hf:=zsY (G:=G) a.f c.f hga.1.1 hgc.1.1
    rw[←hAe] at hf
    simp[hk.1,hk.2,hga.1.1,ta,hgc.1.1,tc,hd35,ap0,apk,set0,setk,s2]
    refine zab hf ?_
    simp[hRl.1,tA,lZ,dZ,ap0,apk,set0,setk,hsh]
   ·have hkb:(decide (a.kind=0)&&decide (c.kind=0))=false:=by
     rw[Bool.and_eq_false_iff]
     by_cases h1:a.kind=0
     ·right; simpa using fun h2=>hk ⟨h1,h2⟩
     ·left; simpa using h1
    have b1:=hb' [some (.cells (zad .u32 a.f)),some (.cells (zad .u32 c.f)),none] fun n=>by simp[Blk.cl]
    have b2:=hb' [some (.cells (zad .u32 a.f)),some (.cells (zad .u32 c.f)),some (.cells (asBC (asB a))),none] fun n=>by simp[Blk.cl,zgX]
    have s3:=hs' [some (.cells (zad .u32 a.f)),some (.cells (zad .u32 c.f)),some (.cells (asBC (asB a)))] fun n=>by simp[Blk.cl,zgX]
    have s4:=hs' [some (.cells (zad .u32 a.f)),some (.cells (zad .u32 c.f)),some (.cells (asBC (asB a))),some (.cells (asBC (asB c)))] fun n=>by simp[Blk.cl,zgX]
    simp at s3 s4
    have fin:∀(p q:Option (List Int×List Nat)),asB a=p→asB c=q→(p.isSome=true→q.isSome=true→∃ p' q',p=some p'∧q=some q'∧A=zcq p'.1 q'.1 p'.2 q'.2)∧((p.isSome&&q.isSome)=false→A=(zae 34,false)):=fun p q ep eq=>by
     have hAe:=hA'
     rw[apN,if_neg hk,ep,eq] at hAe
     cases p<;>cases q<;>simp at hAe ⊢<;>exact hAe
    by_cases h1:a.kind=0
    ·have h2:¬c.kind=0:=fun h2=>hk ⟨h1,h2⟩
     simp[h1,hga.1.1,ta,hgc.1.1,tc,hd35,ap0,apk,set0,setk,s2]
     simp[h2,ap0,apk,set0,setk]
     refine zai (zcQ xn a b1 ha hga.2.1) ?_
     simp[zgW,zel,zgY,ap0,apk,set0,setk,s3]
     refine zai (zcQ yn c b2 hc hgc.2.1) ?_
     simp[zgW,zel,zgY,ap0,apk,set0,setk,s4]
     cases ea:asB a with
     | none =>
      have hAe:=(fin _ _ ea rfl).2 rfl
      simp[hAe,←hZ,lZ,dZ,tZ,ap0,apk,set0,setk,hsh,kZ]
     | some p =>
      cases ec:asB c with
      | none =>
       have hAe:=(fin _ _ ea ec).2 rfl
       simp[hAe,←hZ,lZ,dZ,tZ,ap0,apk,set0,setk,hsh,kZ]
      | some q =>
       obtain⟨_,_,e1,e2,hAe⟩:=(fin _ _ ea ec).1 rfl rfl
       cases e1; cases e2
       obtain⟨hp,hpw⟩:=zdy hga.2.1 ea
       obtain⟨hq,hqw⟩:=zdy hgc.2.1 ec
       have l1:=hp.1
       have l2:=hq.1
       have l3:=zcd l1 hp.2.1
       have l4:=zcd l2 hq.2.1
       have hap:=zog hA p.1 q.1 p.2 q.2 (by omega) (by omega) (by omega) (by omega) hpw hqw
       rw[←hAe] at hap
       simp only[FV] at hap
       simp[asBC,ap0,apk,set0,setk]
       refine zab hap ?_
       simp[hRl.1,tA,lZ,dZ,ap0,apk,set0,setk,hsh]
    ·simp[h1,hga.1.1,ta,hgc.1.1,tc,hd35,ap0,apk,set0,setk,s2]
     refine zai (zcQ xn a b1 ha hga.2.1) ?_
     simp[zgW,zel,zgY,ap0,apk,set0,setk,s3]
     refine zai (zcQ yn c b2 hc hgc.2.1) ?_
     simp[zgW,zel,zgY,ap0,apk,set0,setk,s4]
     cases ea:asB a with
     | none =>
      have hAe:=(fin _ _ ea rfl).2 rfl
      simp[hAe,←hZ,lZ,dZ,tZ,ap0,apk,set0,setk,hsh,kZ]
     | some p =>
      cases ec:asB c with
      | none =>
       have hAe:=(fin _ _ ea ec).2 rfl
       simp[hAe,←hZ,lZ,dZ,tZ,ap0,apk,set0,setk,hsh,kZ]
      | some q =>
       obtain⟨_,_,e1,e2,hAe⟩:=(fin _ _ ea ec).1 rfl rfl
       cases e1; cases e2
       obtain⟨hp,hpw⟩:=zdy hga.2.1 ea
       obtain⟨hq,hqw⟩:=zdy hgc.2.1 ec
       have l1:=hp.1
       have l2:=hq.1
       have l3:=zcd l1 hp.2.1
       have l4:=zcd l2 hq.2.1
       have hap:=zog hA p.1 q.1 p.2 q.2 (by omega) (by omega) (by omega) (by omega) hpw hqw
       rw[←hAe] at hap
       simp only[FV] at hap
       simp[asBC,ap0,apk,set0,setk]
       refine zab hap ?_
       simp[hRl.1,tA,lZ,dZ,ap0,apk,set0,setk,hsh]
end Go.Ev
/- Values of sums and of bits are told zgQ wherever they are not one: plain laws. -/
namespace Go.Ev
open Go Go.RowKit
variable {L L' L'':List Nd}
def Nd.pl(a:Nd):Prop:=(a.kind=0→a=zas a.f)∧(a.kind=1→∃ fv ft,a=zcr fv ft∧Right fv ft∧fv≠[]∧∀ i,fv=[i]→ft≠[0,ones]∧ft≠[ones,0])
def Grow(L L':List Nd):Prop:=∀ a∈L',a∈L∨a.pl
theorem Grow.refl:Grow L L:=fun a h=>.inl h
theorem Grow.trans(h:Grow L L')(k:Grow L' L''):Grow L L'':=fun a ha=>by
 rcases k a ha with h1|h1
 ·exact h a h1
 ·exact .inr h1
def Pl(L:List Nd):Prop:=∀ a∈L,a.pl
theorem Pl.nil:Pl []:=fun a h=>by cases h
theorem Pl.grow(h:Pl L)(g:Grow L L'):Pl L':=fun a ha=>by
 rcases g a ha with h1|h1
 ·exact h a h1
 ·exact h1
theorem Inv.inj(h:Inv L){x y:Nat}{a:Nd}(hx:L[x]?=some a)(hy:L[y]?=some a):x=y:=by
 obtain⟨h1,e1⟩:=List.getElem?_eq_some_iff.1 hx
 obtain⟨h2,e2⟩:=List.getElem?_eq_some_iff.1 hy
 have hp:=List.pairwise_iff_getElem.1 h.one
 rcases Nat.lt_trichotomy x y with hl|hl|hl
 ·exact absurd (e1.trans e2.symm) (hp x y h1 h2 hl)
 ·exact hl
 ·exact absurd (e2.trans e1.symm) (hp y x h2 h1 hl)
/-! Which numbers are sums, and which are bits of some variables. -/
def zhP(L:List Nd)(x:Int):Prop:=∃(n:Nat) (a:Nd),x=n∧L[n]?=some a∧a.kind=0
def zfo(L:List Nd)(x:Int)(P:Int→Prop):Prop:=∃(n:Nat) (a:Nd) (p:List Int×List Nat),x=n∧L[n]?=some a∧asB a=some p∧∀ v∈p.1,P v
theorem zhP.pre{x:Int}(h:zhP L x)(e:L <+: L'):zhP L' x:=by obtain⟨n,a,h1,h2,h3⟩:=h; exact⟨n,a,h1,zgZ e h2,h3⟩
theorem zfo.pre{x:Int}{P:Int→Prop}(h:zfo L x P)(e:L <+: L'):zfo L' x P:=by obtain⟨n,a,p,h1,h2,h3⟩:=h; exact⟨n,a,p,h1,zgZ e h2,h3⟩
theorem zfo.mono{x:Int}{P Q:Int→Prop}(h:zfo L x P)(k:∀ v,P v→Q v):zfo L x Q:=by obtain⟨n,a,p,h1,h2,h3,h4⟩:=h; exact⟨n,a,p,h1,h2,h3,fun v hv=>k v (h4 v hv)⟩
theorem zhP.has{x:Int}(h:zhP L x):hasI L x=true:=by obtain⟨n,a,rfl,h2,_⟩:=h; simp[hasI]; exact(List.getElem?_eq_some_iff.1 h2).1
theorem zfo.has{x:Int}{P:Int→Prop}(h:zfo L x P):hasI L x=true:=by obtain⟨n,a,p,rfl,h2,_⟩:=h; simp[hasI]; exact(List.getElem?_eq_some_iff.1 h2).1
end Go.Ev
/- Where a filter is gone to: splice.targets, hurdleref22.jumps. -/
namespace Go.Ev
open Go Go.RowKit
variable {G:Tbl}
def za9(x:In4)(j i:Nat):Bool:=if x.op=5 then decide (j+1+x.k=i) else isBr x.op&&(decide (j+1+x.jt.toNat=i)||decide (j+1+x.jf.toNat=i))
theorem zuD[HasR2 G][HasR22 G](f:List In4)(j i:Nat)(x:In4)(hg:f[j]?=some x)(hb:x.brOk)(hk:x.k<4294967296)(hf:f.length≤1000000)(hi:i≤4294967296):FP G 210 [FL f,.int .i64 j,.int .i64 i] (.bool (za9 x j i)):=by
 refine zak HasR22.h_hurdleref22_jumps (Nat.le_of_ble_eq_true rfl) ?_
 obtain⟨hlt,hfx⟩:=List.getElem?_eq_some_iff.1 hg
 have hgg:=zaY hlt
 rw[hfx] at hgg
 have hbr:=zc3 (G:=G) x
 have hcs:x.cs=[.int .i64 x.op,.int .i64 x.jt,.int .i64 x.jf,.int .u32 (x.k:Int)]:=rfl
 simp[IV,hcs] at hbr
 have c1:=zft j (by omega)
 have c2:=zft i (by omega)
 have c3:=zft x.k (by omega)
 have a1:addI .u64 (j:Int) 1=((j+1:Nat):Int):=by unfold addI; rw[show(j:Int)+1=((j+1:Nat):Int) by omega]; exact IntWalk.u64_in _ ⟨by omega,by omega⟩
 have a2:addI .u64 ((j+1:Nat):Int) (x.k:Int)=((j+1+x.k:Nat):Int):=by unfold addI; rw[←Int.natCast_add]; exact IntWalk.u64_in _ ⟨by omega,by omega⟩
 have a3:addI .i64 (j:Int) 1=((j+1:Nat):Int):=zag (by omega)
 have ez:∀ a b:Nat,((a:Int)==(b:Int))=decide (a=b):=fun a b=>by rw[Bool.eq_iff_iff]; simp
 simp(disch:=omega)[FL,ltT,hgg,hfx,hcs]
 by_cases h5:x.op=5
 ·have b5:(x.op==5)=true:=by simp[h5]
  simp[b5,c1,c2,c3,a1,a2,za9,h5,ez,-Int.natCast_add]
 ·have b5:(x.op==5)=false:=beqF h5
  simp[b5]
  refine zab hbr ?_
  cases hbx:isBr x.op
  ·simp[za9,h5,hbx]
  ·obtain⟨b1,b2,b3,b4⟩:=hb hbx
   have a4:addI .i64 ((j+1:Nat):Int) x.jt=((j+1+x.jt.toNat:Nat):Int):=by rw[zav]<;>omega
   have a5:addI .i64 ((j+1:Nat):Int) x.jf=((j+1+x.jf.toNat:Nat):Int):=by rw[zav]<;>omega
   simp[a3,a4,-Int.natCast_add]
   by_cases he:j+1+x.jt.toNat=i
   ·simp[ez,he,za9,h5,hbx,-Int.natCast_add]
   ·simp[ez,he,a3,a5,za9,h5,hbx,-Int.natCast_add]
def hitB(f:List In4)(m i:Nat):Bool:=(List.range m).any fun j=>za9 (f.getD j RET) j i
def hits(f:List In4)(m:Nat):List Bool:=(List.range f.length).map (hitB f m)
theorem zjg(f:List In4)(m:Nat):(hits f m).length=f.length:=by simp[hits]
theorem zhQ(f:List In4)(m i:Nat):hitB f (m+1) i=(hitB f m i||za9 (f.getD m RET) m i):=by simp[hitB,List.range_succ,List.any_append]
theorem zf4(f:List In4)(m i:Nat)(h:i<f.length):(hits f m)[i]?=some (hitB f m i):=by simp[hits,h]
theorem zly(f:List In4)(m:Nat)(l:List Bool)(hl:l.length=f.length)(h:∀ i,i<f.length→l[i]?=some (hitB f (m+1) i)):l=hits f (m+1):=by
 refine List.ext_getElem? fun i=>?_
 by_cases hi:i<f.length
 ·rw[h i hi,zf4 _ _ _ hi]
 ·rw[List.getElem?_eq_none (by omega),List.getElem?_eq_none (by rw[zjg]; omega)]
theorem zhR:∀ l:List Bool,zbb 1 l.length (cb l)=zaL l
 | []=>rfl
 | x::l=>by
  have:=zhR l
  simp only[cb] at this
  simp[zbb,cb,zaL,this]
theorem zmf[HasIns G][HasSpl G](f:List In4)(hs:zao f=true)(hk:∀ x∈f,x.k<4294967296):FP G 204 [FL f] (.vs (zaL (hits f f.length)) .no):=by
 refine zak HasSpl.h_splice_targets (Nat.le_of_ble_eq_true rfl) ?_
 have hl:f.length≤4096:=by simp only[zao,Bool.and_eq_true,decide_eq_true_eq] at hs; exact hs.1.1
 simp(disch:=omega)[FL,leTn]
 refine W_up f.length (fun m=>[(3,.rs 0 0 f.length 1),(9,FL f),(10,.int .i64 f.length),(11,.int .i64 m)]) (fun m=>[some (.cells (cb (hits f m)))]) (fun _=>True) ?_ ?_
 ·have:hits f 0=List.replicate f.length false:=by
   refine List.ext_getElem? fun i=>?_
   by_cases hi:i<f.length
   ·rw[zf4 _ _ _ hi,List.getElem?_replicate_of_lt hi]; rfl
   ·rw[List.getElem?_eq_none (by rw[zjg]; omega),List.getElem?_eq_none (by simp; omega)]
  simp[zaa,zac,FL,this]
 intro m hm _
 have hhl:=zjg f m
 by_cases hlt:m<f.length
 ·obtain⟨x,hfx⟩:∃ x,x=f[m]:=⟨_,rfl⟩
  have hgg:=zaY hlt
  rw[←hfx] at hgg
  have hfx:=hfx.symm
  have hg:f[m]?=some x:=by rw[List.getElem?_eq_getElem hlt,hfx]
  have hD:f.getD m RET=x:=by rw[List.getD,hg]; rfl
  have hkk:=hk x (hfx▸List.getElem_mem hlt)
  have hbr:=zcf (G:=G) x
  have hcs:x.cs=[.int .i64 x.op,.int .i64 x.jt,.int .i64 x.jf,.int .u32 (x.k:Int)]:=rfl
  simp[IV,hcs] at hbr
  have hbo:=zdQ hs hg
  have hofs:=fun o=>zcw (o:=o) hs hg
  have a3:addI .i64 (m:Int) 1=((m+1:Nat):Int):=zag (by omega)
  have hc:=zda x.k hkk
  simp(disch:=omega)[FL,ltT,hgg,hfx,hcs]
  by_cases h5:x.op=5
  ·have b5:(x.op==5)=true:=by simp[h5]
   have hnb:isBr x.op=false:=by rw[h5]; decide
   have hof:=hofs x.k (by simp[offs,h5,show zax 5=false by decide])
   have a4:addI .i64 ((m+1:Nat):Int) (x.k:Int)=((m+1+x.k:Nat):Int):=addN (by omega)
   have hst:=ziy (hits f m) (m+1+x.k) true (by omega)
   have hnew:(hits f m).set (m+1+x.k) true=hits f (m+1):=by
    refine zly f m _ (by simp[hhl]) fun i hi=>?_
    rw[List.getElem?_set,zf4 _ _ _ hi,zhQ,hD]
    by_cases he:m+1+x.k=i
    ·subst he; simp[za9,h5,hhl,hi]
    ·simp[za9,h5,he]
   rw[hnb] at hbr
   rw[hnew] at hst
   simp(disch:=omega)[b5,a3,a4,hc,hhl,ltTn,leTn,hst,-Int.natCast_add]
   refine zab hbr ?_
   simp(disch:=omega)[hlt,zag,zaa,zac,FL,-Int.natCast_add]
  ·have b5:(x.op==5)=false:=beqF h5
   simp(disch:=omega)[b5,-Int.natCast_add]
   refine zab hbr ?_
   cases hbx:isBr x.op
   ·have hnew:hits f m=hits f (m+1):=by
     refine zly f m _ hhl fun i hi=>?_
     rw[zf4 _ _ _ hi,zhQ,hD]
     simp[za9,h5,hbx]
    rw[hnew]
    simp(disch:=omega)[hlt,zag,zaa,zac,FL,-Int.natCast_add]
   ·obtain⟨b1,b2,b3,b4⟩:=hbo hbx
    have hne:zax x.op=false:=by
     have key:∀ p∈[21,37,53,69,29,45,61,(77:Int)],zax p=false:=by decide
     exact key _ (by simpa[isBr] using hbx)
    have ho1:=hofs x.jt.toNat (by simp[offs,hne,h5,hbx])
    have ho2:=hofs x.jf.toNat (by simp[offs,hne,h5,hbx])
    have a4:addI .i64 ((m+1:Nat):Int) x.jt=((m+1+x.jt.toNat:Nat):Int):=by rw[zav]<;>omega
    have a5:addI .i64 ((m+1:Nat):Int) x.jf=((m+1+x.jf.toNat:Nat):Int):=by rw[zav]<;>omega
    have hst:=ziy (hits f m) (m+1+x.jt.toNat) true (by omega)
    have hst2:=ziy ((hits f m).set (m+1+x.jt.toNat) true) (m+1+x.jf.toNat) true (by rw[List.length_set]; omega)
    have hnew:((hits f m).set (m+1+x.jt.toNat) true).set (m+1+x.jf.toNat) true=hits f (m+1):=by
     refine zly f m _ (by simp[hhl]) fun i hi=>?_
     rw[List.getElem?_set,List.getElem?_set,zf4 _ _ _ hi,zhQ,hD]
     by_cases he:m+1+x.jt.toNat=i<;>by_cases he2:m+1+x.jf.toNat=i<;>simp[za9,h5,hbx,he,he2,hhl,hi]
    rw[hnew] at hst2
    simp(maxSteps:=20000) (disch:=omega)[a3,a4,a5,hhl,-Int.natCast_add]
    simp[ho1,ho2,hhl,-Int.natCast_add]
    simp(disch:=omega)[hhl,leTn,hst,hst2,-Int.natCast_add]
    simp[ho2,-Int.natCast_add]
    simp(disch:=omega)[hhl,leTn,hst2,-Int.natCast_add]
    simp(disch:=omega)[hlt,zag,zaa,zac,FL,-Int.natCast_add]
 ·have hne:m=f.length:=by omega
  subst hne
  have hch:zbb 1 f.length (cb (hits f f.length))=zaL (hits f f.length):=by
   have h:=zhR (hits f f.length)
   rw[hhl] at h; exact h
  simp(disch:=omega)[hhl,leTn,hch]
end Go.Ev
/- What was made as a sum, or as bits, is one in the book. -/
namespace Go.Ev
open Go Go.RowKit
variable {G:Tbl}
variable {L L':List Nd} {l:List Md}
inductive How (s:MS) (a:Md):Md→Int×List Nd→Prop
 | none {b p}:b.kind=4→How s a b p
 | con {b}:b.kind=0→b.c=a.c→How s a b (putN s.L (zas (a.c::zae 34)))
 | var {b}:b.kind=1→0≤b.i→b.i<34→How s a b (varN s.L b.i)
 | alu {b}:b.kind=2→(doW b.op 0 1).2=true→zbU s.made b.x=true→zbU s.made b.y=true→How s a b (bAlu s.L b.op (atI s.ids b.x) (atI s.ids b.y))
 | neg {b}:b.kind=3→zbU s.made b.x=true→How s a b (bNeg s.L (atI s.ids b.x))
theorem zhP.back{n:Nat}(h:zhP L' n)(e:L <+: L')(hn:n<L.length):zhP L n:=by
 obtain⟨m,a,h1,h2,h3⟩:=h
 obtain rfl:n=m:=by omega
 have:=zgZ e (zal hn)
 rw[h2] at this
 cases this
 exact⟨n,_,rfl,zal hn,h3⟩
theorem zfo.back{n:Nat}{P:Int→Prop}(h:zfo L' n P)(e:L <+: L')(hn:n<L.length):zfo L n P:=by
 obtain⟨m,a,p,h1,h2,h3⟩:=h
 obtain rfl:n=m:=by omega
 have:=zgZ e (zal hn)
 rw[h2] at this
 cases this
 exact⟨n,_,p,rfl,zal hn,h3⟩
theorem ahead{s f:MS}{i:Nat}{x:Int}(hM:MI (zae 34) s)(e1:s.ids=f.ids.take i)(e2:s.made=f.made.take i)(hx:zbU s.made x=true) :
  ∃ n m:Nat,∃ c,x=n∧n<i∧f.made[n]?=some c∧c.kind≠4∧f.ids[n]?=some (m:Int)∧atI s.ids x=m∧m<s.L.length:=by
 obtain⟨n,m,h1,h2,h3,h4,_⟩:=hM.there hx
 have hni:n<i:=by rw[e2,List.length_take] at h2; omega
 obtain⟨c,hcc⟩:∃ c,s.made[n]?=some c:=⟨_,zal h2⟩
 obtain⟨y,hy⟩:∃ y,s.ids[n]?=some y:=⟨_,zal (by rw[hM.len]; exact h2)⟩
 have hym:y=m:=by
  rw[atI,h1,if_pos ⟨by omega,by rw[hM.len]; omega⟩,Int.toNat_natCast,hy] at h3
  exact h3
 subst h1
 refine⟨n,m,c,rfl,hni,?_,?_,?_,h3,h4⟩
 ·rw[e2,List.getElem?_take,if_pos hni] at hcc; exact hcc
 ·simp only[zbU,Int.toNat_natCast,hcc,Bool.and_eq_true,decide_eq_true_eq] at hx; exact hx.2
 ·rw[e1,List.getElem?_take,if_pos hni,hym] at hy; exact hy
end Go.Ev
/- The assignments that may tell two windows zgQ: decide.tries. -/
namespace Go.Ev
open Go Go.RowKit
variable {G:Tbl}
def zcy(i:Nat):List Nat:=[0,4294967295,1,2147483648,3+7*i,16843009*(i+1),2,65535,1431655765,2863311530*2^(i%3)%4294967296,i%2,i*2654435769%4294967296]
def rowK(k:Nat):List Nat:=(List.range 34).map fun i=>(zcy i).getD k 0
theorem zeE(k:Nat):(rowK k).length=34:=by simp[rowK]
theorem zs1{i:Nat}(hi:i<34):∀ x∈zcy i,x<4294967296:=by
 intro x hx
 simp only[zcy,List.mem_cons,List.not_mem_nil,or_false] at hx
 rcases hx with rfl|rfl|rfl|rfl|rfl|rfl|rfl|rfl|rfl|rfl|rfl|rfl<;>omega
theorem zwu(k:Nat):∀ x∈rowK k,x<4294967296:=by
 intro x hx
 simp only[rowK,List.mem_map,List.mem_range] at hx
 obtain⟨i,hi,rfl⟩:=hx
 rw[List.getD]
 cases hg:(zcy i)[k]? with
 | none=>decide
 | some y=>exact zs1 hi y (List.mem_of_getElem? hg)
def zcH(k i:Nat):List Nat:=(rowK k).take i++zae (34-i)
theorem zhS{k i:Nat}(hi:i≤34):(zcH k i).length=34:=by simp[zcH,zeE]; omega
theorem zuE(k:Nat):zcH k 34=rowK k:=by rw[zcH,List.take_of_length_le (by rw[zeE]; exact Nat.le_refl _)]; simp[zae]
theorem zs2{k i:Nat}(hi:i<34):(zcH k i).set i ((zcy i).getD k 0)=zcH k (i+1):=by
 have hg:(rowK k)[i]'(by rw[zeE]; omega)=(zcy i).getD k 0:=by simp[rowK]
 rw[zcH,zcH,List.set_append_right _ _ (by rw[List.length_take]; omega),List.length_take,Nat.min_eq_left (by rw[zeE]; omega),Nat.sub_self,List.take_succ_eq_append_getElem (by rw[zeE]; omega),hg,List.append_assoc]
 congr 1
 rw[show 34-i=(34-(i+1))+1 by omega]
 rfl
theorem zxL{a b:Nat}:mulI .u32 (a:Int) (b:Int)=((a*b%4294967296:Nat):Int):=by
 unfold mulI
 rw[←Int.natCast_mul]
 simp only[IntKind.wrap,IntKind.bits,IntKind.signed]
 simp
section
variable {α:Type} {f:Nat→Option α} {hit:α→Bool} {n i:Nat}
theorem zjh(h:∀ j<n,∀ r,f j=some r→hit r=false):((List.range n).filterMap f).find? hit=none:=by
 rw[List.find?_eq_none]
 intro r hr
 obtain⟨j,hj,hfr⟩:=List.mem_filterMap.1 hr
 rw[h j (List.mem_range.1 hj) r hfr]; decide
theorem zpg(hi:i<n)(h:∀ j<i,∀ r,f j=some r→hit r=false){r:α}(hr:f i=some r)(hh:hit r=true):((List.range n).filterMap f).find? hit=some r:=by
 obtain⟨m,rfl⟩:∃ m,n=i+(m+1):=⟨n-i-1,by omega⟩
 rw[List.range_add,List.filterMap_append,List.find?_append,zjh h,Option.none_or]
 rw[List.range_succ_eq_map,List.map_cons,List.filterMap_cons]
 simp only[Nat.add_zero,hr,List.find?_cons,hh]
end
noncomputable def trA(L:List Nd)(p q:List Int)(live i:Nat):Option (List Nat):=if zge live i=true∧(apB L (p.getD i 0) (q.getD i 0)).2=true then some (apB L (p.getD i 0) (q.getD i 0)).1 else none
noncomputable def zbv(L:List Nd)(p q:List Int)(live:Nat):List (List Nat):=(List.range 18).filterMap (trA L p q live)++(List.range 12).filterMap fun k=>some (rowK k)
theorem zhT{L:List Nd}{p q:List Int}{live:Nat}{r:List Nat}(h:r∈zbv L p q live):r.length=34∧∀ x∈r,x<4294967296:=by
 rw[zbv,List.mem_append] at h
 rcases h with h|h
 ·obtain⟨j,hj,hfr⟩:=List.mem_filterMap.1 h
  unfold trA at hfr
  split at hfr
  ·cases hfr; exact zqD _ _ _
  ·cases hfr
 ·obtain⟨j,hj,hfr⟩:=List.mem_filterMap.1 h
  cases hfr
  exact⟨zeE _,zwu _⟩
section
variable {H:Heap} {b z m:Nat} {L:List Nd}
theorem zgo{A X:Heap}{n:Nat}(h:zac n A=A)(hl:A.length=n):zac n (A++X)=A:=by
 unfold zac at h ⊢
 rw[List.take_left' hl]
 rwa[List.take_of_length_le (Nat.le_of_eq hl)] at h
theorem zs3[HasAffApart G][HasAffine G][hA:HasBitsA G][HasSym G][HasSymApart G][HasDecDf G][HasDec G](h:Bk H b z m L)(hi:Inv L){id i1 i2 i3 i4 live:Nat}{p q s t:List Int}(hlv:live<4294967296)
  (h1:H[i1]?=some (some (.cells [.int .u32 live]))) (h2:H[i2]?=some (some (.cells [.ptr b 0]))) (h3:H[i3]?=some (some (.cells (vcs p s .no)))) (h4:H[i4]?=some (some (.cells (vcs q t .no))))
  (hp:p.length=18) (hq:q.length=18) (hid:id<H.length) {hit:List Nat→Bool} {H':List Nat→Heap}
  (hyes:∀ r∈zbv L p q live,hit r=false→∀ X:Heap,(∀ n,X.map (Option.map (Blk.cl n))=X)→YS G id [.agg (zad .u32 r)] (H++X) true (H++X))
  (hno:∀ r∈zbv L p q live,hit r=true→∀ X:Heap,(∀ n,X.map (Option.map (Blk.cl n))=X)→YS G id [.agg (zad .u32 r)] (H++X) false (H' r++X))
  (hl':∀ r∈zbv L p q live,hit r=true→zac H.length (H' r)=H' r∧(H' r).length=H.length) :
  SF G 310 [.yld id,.ptr i1 0,.ptr i2 0,.ptr i3 0,.ptr i4 0] H (.tup []) (match(zbv L p q live).find? hit with|some r=>H' r|none=>H):=by
 refine zbz HasDec.h_decide_tries_1 (Nat.le_of_ble_eq_true rfl) ?_
 have lt1:i1<H.length:=(List.getElem?_eq_some_iff.1 h1).1
 have lt2:i2<H.length:=(List.getElem?_eq_some_iff.1 h2).1
 have lt3:i3<H.length:=(List.getElem?_eq_some_iff.1 h3).1
 have lt4:i4<H.length:=(List.getElem?_eq_some_iff.1 h4).1
 have hself:=h.shut.self
 have hback:=h.shut.back
 have hbl:=h.lb
 have g1:=(List.getElem?_eq_some_iff.1 h1).2
 have g2:=(List.getElem?_eq_some_iff.1 h2).2
 have g3:=(List.getElem?_eq_some_iff.1 h3).2
 have g4:=(List.getElem?_eq_some_iff.1 h4).2
 have e1:∀ X:Heap,(H++X)[i1]?=some (some (.cells [.int .u32 live])):=fun X=>by rw[List.getElem?_append_left lt1]; exact h1
 have e2:∀ X:Heap,(H++X)[i2]?=some (some (.cells [.ptr b 0])):=fun X=>by rw[List.getElem?_append_left lt2]; exact h2
 have e3:∀ X:Heap,(H++X)[i3]?=some (some (.cells (vcs p s .no))):=fun X=>by rw[List.getElem?_append_left lt3]; exact h3
 have e4:∀ X:Heap,(H++X)[i4]?=some (some (.cells (vcs q t .no))):=fun X=>by rw[List.getElem?_append_left lt4]; exact h4
 have e1':∀(X:Heap) h,(H++X)[i1]'h=some (.cells [.int .u32 live]):=fun X h=>(List.getElem?_eq_some_iff.1 (e1 X)).2
 have e2':∀(X:Heap) h,(H++X)[i2]'h=some (.cells [.ptr b 0]):=fun X h=>(List.getElem?_eq_some_iff.1 (e2 X)).2
 have e3':∀(X:Heap) h,(H++X)[i3]'h=some (.cells (vcs p s .no)):=fun X h=>(List.getElem?_eq_some_iff.1 (e3 X)).2
 have e4':∀(X:Heap) h,(H++X)[i4]'h=some (.cells (vcs q t .no)):=fun X h=>(List.getElem?_eq_some_iff.1 (e4 X)).2
 have k0:∀(r:Heap) x,(H++r).set H.length x=H++r.set 0 x:=fun r x=>zbW rfl x
 have kk:∀ r:Heap,(H++r)[H.length]?=r[0]?:=fun r=>apn0 rfl
 have lp:=zeK (st:=s) (tk:=.no) hp
 have lq:=zeK (st:=t) (tk:=.no) hq
 have hBn:Bk (H++[none]) b z m L:=h.app fun n=>by simp
 have hmap:H.map (Option.map (Blk.cl H.length))=H:=by
  have:=hself
  unfold zac at this
  rwa[List.take_of_length_le (Nat.le_refl _)] at this
 simp
 refine W_up 18 (fun i=>[(0,.yld id),(1,.ptr i1 0),(2,.ptr i2 0),(3,.ptr i3 0),(4,.ptr i4 0),(12,.int .i64 i)]) (fun _=>H) (fun i=>∀ j<i,∀ r,trA L p q live j=some r→hit r=false) ?_ ?_
 ·simp[zaa,hself,hid,lt1,lt2,lt3,lt4]
 intro i hi' hP
 by_cases hlt:i<18
 ·have hin:=zrt (G:=G) live i hlv (by omega)
  simp(disch:=omega)[ltT,hlt,h1,g1]
  refine zab hin ?_
  cases hb:zge live i with
  | false =>
   have hP':∀ j<i+1,∀ r,trA L p q live j=some r→hit r=false:=fun j hj r hr=>by
    rcases Nat.lt_succ_iff_lt_or_eq.1 hj with h|rfl
    ·exact hP j h r hr
    ·simp[trA,hb] at hr
   simp(disch:=omega)[ltT,hlt,zag,zaa,hself,hid,lt1,lt2,lt3,lt4,-Int.natCast_add]
   exact hP'
  | true =>
   obtain⟨x,hx⟩:∃ x,x=p.getD i 0:=⟨_,rfl⟩
   obtain⟨y,hy⟩:∃ y,y=q.getD i 0:=⟨_,rfl⟩
   have gx:x=p[i]'(by omega):=by rw[hx]; simp[List.getD,List.getElem?_eq_getElem (show i<p.length by omega)]
   have gy:y=q[i]'(by omega):=by rw[hy]; simp[List.getD,List.getElem?_eq_getElem (show i<q.length by omega)]
   have vx:=zfu (p:=p) (st:=s) (tk:=.no) hp hlt
   have vy:=zfu (p:=q) (st:=t) (tk:=.no) hq hlt
   rw[←gx] at vx
   rw[←gy] at vy
   have hap:=zwt (G:=G) x y hBn hi
   have hal:=zqD L x y
   have hR:trA L p q live i=if(apB L x y).2=true then some (apB L x y).1 else none:=by rw[hx,hy]; simp[trA,hb]
   obtain⟨r,hr⟩:∃ r,r=(apB L x y).1:=⟨_,rfl⟩
   obtain⟨ok,hok⟩:∃ ok,ok=(apB L x y).2:=⟨_,rfl⟩
   rw[←hr,←hok] at hap hR
   rw[←hr] at hal
   have rt:=zaj (k:=.u32) hal.1
   have rd:(zad .u32 r).drop 34=[]:=List.drop_eq_nil_of_le (by simp[hal.1])
   simp(disch:=omega)[ltT,leTn,leFn,hlt,zaa,e1,e2,e3,e4,e1',e2',e3',e4',lp,lq,vx,vy,hself,hid,lt1,lt2,lt3,lt4]
   refine zsR hap ⟨?_,?_,rfl⟩ ?_
   ·intro v hv
    simp only[List.mem_cons,List.not_mem_nil,or_false] at hv
    rcases hv with rfl|rfl|rfl<;>simp[V.cl,hbl]
   ·simp only[List.map_append,hmap,List.map_cons,List.map_nil,Option.map_none]
   simp(disch:=omega)[k0,kk,hal.1,rt,rd]
   have htr:ok=true→r∈zbv L p q live:=fun h=>by
    rw[zbv,List.mem_append]
    exact .inl (List.mem_filterMap.2 ⟨i,List.mem_range.2 hlt,by rw[hR,if_pos h]⟩)
   have hP1:(∀ r',trA L p q live i=some r'→hit r'=false)→∀ j<i+1,∀ r,trA L p q live j=some r→hit r=false:=fun h0 j hj r hr=>by
    rcases Nat.lt_succ_iff_lt_or_eq.1 hj with h|rfl
    ·exact hP j h r hr
    ·exact h0 r hr
   cases ok with
   | false =>
    have:=hP1 fun r' h=>by rw[hR] at h; cases h
    simp(disch:=omega)[hlt,zag,zaa,hself,hback,hid,lt1,lt2,lt3,lt4,-Int.natCast_add]
    exact this
   | true =>
    have hXc:∀ n,([some (Blk.cells (zad .u32 r))]:Heap).map (Option.map (Blk.cl n))=[some (Blk.cells (zad .u32 r))]:=fun n=>by simp[Blk.cl]
    simp(disch:=omega)[hlt,zaa,hid,lt1,lt2,lt3,lt4,kk,hal.1,rt]
    cases hh:hit r with
    | false =>
     refine zcB (hyes r (htr rfl) hh _ hXc) ?_
     have:=hP1 fun r' h=>by rw[hR,if_pos rfl] at h; cases h; exact hh
     simp(disch:=omega)[hlt,zag,zaa,hself,hback,hid,lt1,lt2,lt3,lt4,-Int.natCast_add]
     exact this
    | true =>
     refine zcB (hno r (htr rfl) hh _ hXc) ?_
     obtain⟨hl1,hl2⟩:=hl' r (htr rfl) hh
     have hf:=zpg hlt hP (by rw[hR,if_pos rfl]) hh
     have hfin:(zbv L p q live).find? hit=some r:=by rw[zbv,List.find?_append,hf]; rfl
     simp[hfin,zgo hl1 hl2]
 ·have hne:i=18:=by omega
  subst hne
  have hA:=zjh hP
  simp
  refine W_up 12 (fun k=>[(0,.yld id),(40,.int .u32 k)]) (fun _=>H) (fun k=>∀ j<k,∀ r,(some (rowK j):Option (List Nat))=some r→hit r=false) ?_ ?_
  ·simp[zaa,hself,hid]
  intro k hk hP2
  by_cases hlt2:k<12
  ·have hz34:[V.int .u32 0,.int .u32 0]=[V.int .u32 0,.int .u32 0]:=rfl
   have hs:∀ i,zac (H.length+1) (H++[some (.cells (zad .u32 (zcH k i)))])=H++[some (.cells (zad .u32 (zcH k i)))]:=fun i=>by
    have:=(h.app (r:=[some (.cells (zad .u32 (zcH k i)))]) fun n=>by simp[Blk.cl]).shut.self
    simpa using this
   simp(disch:=omega)[ltT,hlt2,kk,k0]
   refine W_up 34 (fun i=>[(0,.yld id),(9,.int .u32 k),(10,.ptr H.length 0),(40,.int .u32 k),(43,.int .i64 i)]) (fun i=>H++[some (.cells (zad .u32 (zcH k i)))]) (fun _=>True) ?_ ?_
   ·have:=hs 0
    rw[show zcH k 0=zae 34 by simp[zcH]] at this
    simp[zaa,this,zcH,show id<H.length+1 by omega]
   intro i hi _
   by_cases hlt3:i<34
   ·have r3:remI (i:Int) 3=((i%3:Nat):Int):=zkB (b:=3)
    have r2:remI (i:Int) 2=((i%2:Nat):Int):=zkB (b:=2)
    have r3n:(((i%3:Nat):Int)<0)=False:=eq_false (by omega)
    have s3:shlI .u32 2863311530 ((i%3:Nat):Int)=((2863311530*2^(i%3)%4294967296:Nat):Int):=zn9 (a:=2863311530) (by omega)
    have c1:zaP .u32 (i:Int)=(i:Int):=zaT (by omega)
    have c2:zaP .u32 ((i+1:Nat):Int)=((i+1:Nat):Int):=zaT (by omega)
    have c3:zaP .u32 ((i%2:Nat):Int)=((i%2:Nat):Int):=zaT (by omega)
    have m1:mulI .u32 7 (i:Int)=((7*i:Nat):Int):=zto (a:=7) (by omega)
    have a1:addI .u32 3 ((7*i:Nat):Int)=((3+7*i:Nat):Int):=by
     unfold addI
     rw[show(3:Int)+((7*i:Nat):Int)=((3+7*i:Nat):Int) by omega]
     exact zaT (by omega)
    have m2:mulI .u32 16843009 ((i+1:Nat):Int)=((16843009*(i+1):Nat):Int):=zto (a:=16843009) (by omega)
    have m3:mulI .u32 (i:Int) 2654435769=((i*2654435769%4294967296:Nat):Int):=zxL (b:=2654435769)
    have hc:∀ n9:Nat,n9=2863311530*2^(i%3)%4294967296→∀ n11:Nat,n11=i*2654435769%4294967296→[V.int .u32 0,.int .u32 4294967295,.int .u32 1,.int .u32 2147483648,.int .u32 ((3+7*i:Nat):Int),.int .u32 ((16843009*(i+1):Nat):Int),.int .u32 2,.int .u32 65535,.int .u32 1431655765,.int .u32 (n9:Int),.int .u32 ((i%2:Nat):Int),.int .u32 (n11:Int)]=zad .u32 (zcy i):=by
     rintro n9 rfl n11 rfl
     rfl
    obtain⟨n9,hn9⟩:∃ n9,n9=2863311530*2^(i%3)%4294967296:=⟨_,rfl⟩
    obtain⟨n11,hn11⟩:∃ n11,n11=i*2654435769%4294967296:=⟨_,rfl⟩
    have hc:=hc n9 hn9 n11 hn11
    rw[←hn9] at s3
    rw[←hn11] at m3
    have hz12:zad .u32 (zae 12)=[V.int .u32 0,.int .u32 0,.int .u32 0,.int .u32 0,.int .u32 0,.int .u32 0,.int .u32 0,.int .u32 0,.int .u32 0,.int .u32 0,.int .u32 0,.int .u32 0]:=rfl
    have lc:(zcy i).length=12:=rfl
    have cg:=zaU .u32 (zcy i) k (by rw[lc]; exact hlt2)
    have hce:(zcy i)[k]'(by rw[lc]; exact hlt2)=(zcy i).getD k 0:=by simp[List.getD,List.getElem?_eq_getElem (show k<(zcy i).length from hlt2)]
    rw[hce] at cg
    have hst:=zbs .u32 (zcH k i) i ((zcy i).getD k 0) (by rw[zhS hi]; exact hlt3)
    rw[zs2 hlt3] at hst
    obtain⟨cv,hcv⟩:∃ cv,cv=(zcy i).getD k 0:=⟨_,rfl⟩
    rw[←hcv] at cg hst
    simp(disch:=omega)[ltT,hlt3,kk,k0,zhS hi,r3,r2,r3n,s3,c1,zag,c2,c3,m1,a1,m2,m3,hz12,-Int.natCast_add,-Int.natCast_mul,-Int.natCast_emod]
    have lr:=zhS hi (k:=k)
    have lr':=zhS (show i+1≤34 from hlt3) (k:=k)
    rw[hc,cg]
    simp(disch:=omega)[ltT,leTn,hlt3,show k≤11 by omega,kk,k0,lr,hst,hs,zaa,zag,show id<H.length+1 by omega,-Int.natCast_add]
   ·have hne:i=34:=by omega
    subst hne
    have hXc:∀ n,([some (Blk.cells (zad .u32 (rowK k)))]:Heap).map (Option.map (Blk.cl n))=[some (Blk.cells (zad .u32 (rowK k)))]:=fun n=>by simp[Blk.cl]
    have hmem:rowK k∈zbv L p q live:=by
     rw[zbv,List.mem_append]
     exact .inr (List.mem_filterMap.2 ⟨k,List.mem_range.2 hlt2,rfl⟩)
    have rl:=zeE k
    have rt:=zaj (k:=.u32) rl
    have ck:addI .u32 (k:Int) 1=((k+1:Nat):Int):=by
     unfold addI
     rw[show(k:Int)+1=((k+1:Nat):Int) by omega]
     exact zaT (by omega)
    simp[zuE,kk,rl,rt]
    cases hh:hit (rowK k) with
    | false =>
     refine zcB (hyes _ hmem hh _ hXc) ?_
     have hP3:∀ j<k+1,∀ r,(some (rowK j):Option (List Nat))=some r→hit r=false:=fun j hj r hr=>by
      rcases Nat.lt_succ_iff_lt_or_eq.1 hj with h|rfl
      ·exact hP2 j h r hr
      ·cases hr; exact hh
     simp(disch:=omega)[hlt2,ck,zaa,hself,hback,hid,-Int.natCast_add]
     simpa using hP3
    | true =>
     refine zcB (hno _ hmem hh _ hXc) ?_
     obtain⟨hl1,hl2⟩:=hl' _ hmem hh
     have hB:=zpg hlt2 hP2 rfl hh
     have hfin:(zbv L p q live).find? hit=some (rowK k):=by rw[zbv,List.find?_append,hA,hB]; rfl
     simp[hfin,zgo hl1 hl2]
  ·have hne:k=12:=by omega
   subst hne
   have hB:=zjh hP2
   have hfin:(zbv L p q live).find? hit=none:=by rw[zbv,List.find?_append,hA,hB]; rfl
   simp[hfin,hself]
end
end Go.Ev
/- Whether values and stops are one: decide.same. -/
namespace Go.Ev
open Go Go.RowKit
variable {G:Tbl}
def zc8(p q:List Int)(live i:Nat):Bool:=zge live i&&(p.getD i 0 !=q.getD i 0)
def zc1(p q s t:List Int)(live:Nat):Bool:=!((List.range 18).any (zc8 p q live))&&decide (s=t)
theorem zs4{p q s t:List Int}{live:Nat}:zc1 p q s t live=true↔(∀ i<18,zc8 p q live i=false)∧s=t:=by
 simp[zc1]
theorem zs5{p q s t:List Int}{live i:Nat}(hi:i<18)(h:zc8 p q live i=true):zc1 p q s t live=false:=by
 have:(List.range 18).any (zc8 p q live)=true:=List.any_eq_true.2 ⟨i,List.mem_range.2 hi,h⟩
 simp only[zc1,this,Bool.not_true,Bool.false_and]
theorem znC{p q s t:List Int}{live:Nat}(h:s≠t):zc1 p q s t live=false:=by simp[zc1,h]
theorem zwv[HasDecDf G][HasDec G](p q s t:List Int)(live:Nat)(hlv:live<4294967296)(hp:p.length=18)(hq:q.length=18)(hs:s.length≤1000000) :
  FP G 309 [.agg (vcs p s .no),.agg (vcs q t .no),.int .u32 live] (.bool (zc1 p q s t live)):=by
 refine zak HasDec.h_decide_same (Nat.le_of_ble_eq_true rfl) ?_
 have lp:=zeK (st:=s) (tk:=.no) hp
 have lq:=zeK (st:=t) (tk:=.no) hq
 have cp:∀ n,clL n (vcs p s .no)=vcs p s .no:=fun n=>by rw[zan,vcs]; simp[za7,Function.comp_def,V.cl,Tk.cl]
 have cq:∀ n,clL n (vcs q t .no)=vcs q t .no:=fun n=>by rw[zan,vcs]; simp[za7,Function.comp_def,V.cl,Tk.cl]
 have np:(vcs p s .no).map V.nf1=vcs p s .no:=by simp[vcs,za7,Function.comp_def,V.nf1]
 have nq:(vcs q t .no).map V.nf1=vcs q t .no:=by simp[vcs,za7,Function.comp_def,V.nf1]
 have sp:=zoo (st:=s) (tk:=.no) hp
 have sq:=zoo (st:=t) (tk:=.no) hq
 obtain⟨P,hP⟩:∃ P,P=vcs p s .no:=⟨_,rfl⟩
 obtain⟨Q,hQ⟩:∃ Q,Q=vcs q t .no:=⟨_,rfl⟩
 simp only[←hP,←hQ] at lp lq cp cq np nq sp sq ⊢
 simp[np,nq]
 refine W_up 18 (fun i=>[(2,.int .u32 live),(3,.ptr 0 0),(4,.ptr 1 0),(10,.int .i64 i)]) (fun _=>[some (.cells P),some (.cells Q)]) (fun i=>∀ j<i,zc8 p q live j=false) ?_ ?_
 ·simp[zaa,zac,cp,cq]
 intro i hi hP1
 by_cases hlt:i<18
 ·have hin:=zrt (G:=G) live i hlv (by omega)
  obtain⟨x,hx⟩:∃ x,x=p.getD i 0:=⟨_,rfl⟩
  obtain⟨y,hy⟩:∃ y,y=q.getD i 0:=⟨_,rfl⟩
  have gx:x=p[i]'(by omega):=by rw[hx]; simp[List.getD,List.getElem?_eq_getElem (show i<p.length by omega)]
  have gy:y=q[i]'(by omega):=by rw[hy]; simp[List.getD,List.getElem?_eq_getElem (show i<q.length by omega)]
  have vx:=zfu (p:=p) (st:=s) (tk:=.no) hp hlt
  have vy:=zfu (p:=q) (st:=t) (tk:=.no) hq hlt
  rw[←gx,←hP] at vx
  rw[←gy,←hQ] at vy
  have hnd:zc8 p q live i=(zge live i&&(x !=y)):=by rw[hx,hy]; rfl
  have hP2:zc8 p q live i=false→∀ j<i+1,zc8 p q live j=false:=fun h0 j hj=>by
   rcases Nat.lt_succ_iff_lt_or_eq.1 hj with h|rfl
   ·exact hP1 j h
   ·exact h0
  simp(disch:=omega)[ltT,hlt]
  refine zab hin ?_
  cases hb:zge live i with
  | false =>
   rw[hb,Bool.false_and] at hnd
   simp(disch:=omega)[ltT,hlt,zag,zaa,zac,cp,cq,-Int.natCast_add]
   exact hP2 hnd
  | true =>
   rw[hb,Bool.true_and] at hnd
   by_cases hxy:x=y
   ·have hn:zc8 p q live i=false:=by rw[hnd,hxy]; simp
    simp(disch:=omega)[ltT,leTn,lp,lq,vx,vy,hxy,hlt,zag,zaa,zac,cp,cq,-Int.natCast_add]
    exact hP2 hn
   ·have hn:zc8 p q live i=true:=by rw[hnd]; simp[hxy]
    simp(disch:=omega)[ltT,leTn,lp,lq,vx,vy,bneT hxy,hxy,hlt,zs5 hlt hn]
 ·have hne:i=18:=by omega
  subst hne
  simp[lp,lq,sp,sq,zaa]
  by_cases hl:s.length=t.length
  ·simp[hl,lp,lq,sp,sq,zaa]
   refine W_up s.length (fun i=>[(4,.ptr 1 0),(36,.vs (ints .i64 s) .no),(37,.int .i64 s.length),(38,.int .i64 i)]) (fun _=>[some (.cells P),some (.cells Q)]) (fun i=>s.take i=t.take i) ?_ ?_
   ·simp[zaa,zac,cp,cq,hl]
   intro i hi hT
   by_cases hlt:i<s.length
   ·have g1:(ints .i64 s)[i]?=some [.int .i64 s[i]]:=by simp[hlt]
    have g2:(ints .i64 t)[i]?=some [.int .i64 (t[i]'(by omega))]:=by simp[show i<t.length by omega]
    obtain⟨x,hx⟩:∃ x,x=s[i]:=⟨_,rfl⟩
    obtain⟨y,hy⟩:∃ y,y=t[i]'(by omega):=⟨_,rfl⟩
    rw[←hx] at g1
    rw[←hy] at g2
    have hx:=hx.symm
    have hy:=hy.symm
    by_cases hxy:x=y
    ·have hT':s.take (i+1)=t.take (i+1):=by
      rw[List.take_add_one,List.take_add_one,hT,List.getElem?_eq_getElem hlt,List.getElem?_eq_getElem (show i<t.length by omega),hx,hy,hxy]
     simp(disch:=omega)[ltT,hlt,hl,lp,lq,sp,sq,g1,g2,hx,hy,hxy,zag,zaa,zac,cp,cq,hT',show i<t.length by omega,-Int.natCast_add]
    ·have hne:s≠t:=by
      rintro rfl
      exact hxy (hx.symm.trans hy)
     simp(disch:=omega)[ltT,hlt,hl,lp,lq,sp,sq,g1,g2,hx,hy,bneT hxy,hxy,znC hne]
   ·have hne:i=s.length:=by omega
    subst hne
    rw[List.take_length,hl,List.take_length] at hT
    simp[zs4.2 ⟨hP1,hT⟩]
  ·have hne:s≠t:=fun h=>hl (by rw[h])
   have hne':((s.length:Int) !=(t.length:Int))=true:=bneT (by omega)
   simp[hl,hne',znC hne]
end Go.Ev
