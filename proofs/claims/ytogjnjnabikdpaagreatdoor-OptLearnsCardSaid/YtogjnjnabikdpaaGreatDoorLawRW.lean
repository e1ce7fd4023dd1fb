/- Layer 24: tables, as the document has them. -/
import Derived.Test.YtogjnjnabikdpaaGreatDoorArgIW
set_option linter.unusedSimpArgs false
set_option linter.unusedVariables false
set_option maxHeartbeats 8000000
set_option maxRecDepth 10000
namespace Go.Ev
open Go Go.RowKit
variable {G:Tbl}
theorem remN(a b:Nat):remI (a:Int) (b:Int)=((a%b:Nat):Int):=zkd
theorem zh8{a b:Nat}(ha:a<4294967296):quoI .u32 (a:Int) (b:Int)=((a/b:Nat):Int):=by
 have h:a/b≤a:=Nat.div_le_self _ _
 unfold quoI
 have h2:((a:Int).tdiv (b:Int))=((a/b:Nat):Int):=rfl
 rw[h2]
 exact IntWalk.u32_in _ ⟨Int.natCast_nonneg _,by rw[Int.ofNat_le.symm] at h; omega⟩
theorem zv3[HasR3e G](x:In4)(hr:zaV x=true)(hk:x.k<4294967296):FP G 366 [IV x] (.vs (nats .u8 (encN x)) .no):=by
 refine zak HasR3e.h_hurdleref03_One (Nat.le_of_ble_eq_true rfl) ?_
 obtain⟨r1,r2,r3⟩:=znt hr
 obtain⟨o,ho⟩:∃ o:Nat,x.op=o:=⟨x.op.toNat,by omega⟩
 obtain⟨jt,hjt⟩:∃ o:Nat,x.jt=o:=⟨x.jt.toNat,by omega⟩
 obtain⟨jf,hjf⟩:∃ o:Nat,x.jf=o:=⟨x.jf.toNat,by omega⟩
 obtain⟨k,hxk2⟩:∃ k,x.k=k:=⟨_,rfl⟩
 have hcs:x.cs=[.int .i64 o,.int .i64 jt,.int .i64 jf,.int .u32 k]:=by rw[In4.cs,ho,hjt,hjf,hxk2]
 have hen:encN x=[o%256,o/256%256,jt%256,jf%256]++lowL k 4:=by rw[encN,ho,hjt,hjf,hxk2]; rfl
 have ho0:o/256%256=0:=by
  have:o/256=0:=Nat.div_eq_of_lt (by omega)
  rw[this]
 have hkb:k<4294967296:=by omega
 have m1:remI (o:Int) 256=((o%256:Nat):Int):=remN o 256
 have m2:remI (k:Int) 256=((k%256:Nat):Int):=remN k 256
 have q1:quoI .u32 (k:Int) 256=((k/256:Nat):Int):=zh8 (b:=256) hkb
 have q2:quoI .u32 (k:Int) 65536=((k/65536:Nat):Int):=zh8 (b:=65536) hkb
 have q3:quoI .u32 (k:Int) 16777216=((k/16777216:Nat):Int):=zh8 (b:=16777216) hkb
 have m3:remI ((k/256:Nat):Int) 256=((k/256%256:Nat):Int):=remN _ 256
 have m4:remI ((k/65536:Nat):Int) 256=((k/65536%256:Nat):Int):=remN _ 256
 have hL:lowL k 4=[k%256,k/256%256,k/65536%256,k/16777216%256]:=by simp[lowL,List.range,List.range.loop]
 rw[hen,ho0,hL]
 simp(disch:=omega)[IV,hcs,m1,m2,m3,m4,q1,q2,q3,zia,nats,-Int.natCast_ediv,-Int.natCast_emod]
theorem zkN[HasR3e G](w:List In4)(hw:w.length≤1000)(hr:∀ x∈w,zaV x=true)(hk:∀ x∈w,x.k<4294967296):FP G 367 [FL w] (.vs (nats .u8 (zaW w)) .no):=by
 refine zak HasR3e.h_hurdleref03_Encode (Nat.le_of_ble_eq_true rfl) ?_
 obtain⟨T,hT⟩:∃ T:Nat→List Nat,∀ j,T j=zaW (w.take j):=⟨_,fun _=>rfl⟩
 have hT0:T 0=[]:=by rw[hT]; rfl
 simp[FL]
 refine W_up w.length (fun i=>[(0,FL w),(3,.vs (nats .u8 (T i)) (.own 0)),(4,.int .i64 i)]) (fun i=>[some (.zone (8*i))]) (fun _=>True) ?_ ?_
 ·simp[zaa,zad,FL,hT0]
 intro i hi _
 by_cases hlt:i<w.length
 ·obtain⟨x,hfx⟩:∃ x,x=w[i]:=⟨_,rfl⟩
  have hgg:=zbg hlt
  rw[←hfx] at hgg
  have hxm:x∈w:=by rw[hfx]; exact List.getElem_mem hlt
  have hon:=zv3 (G:=G) x (hr x hxm) (hk x hxm)
  have hTs:T (i+1)=T i++encN x:=by
   rw[hT,hT,List.take_add_one,List.getElem?_eq_getElem hlt,Option.toList_some,zl3,hfx]
  have hTl:(T i).length=8*i:=by rw[hT,zbC,List.length_take]; omega
  have hxl:x.cs.length=4:=rfl
  have hxt:x.cs.take 4=x.cs:=rfl
  have hel:=zpg x
  have hap:nats .u8 (T i)++nats .u8 (encN x)=nats .u8 (T (i+1)):=by rw[hTs]; simp[nats]
  have hne:nats .u8 (encN x)≠[]:=by
   intro h
   have:=congrArg List.length h
   simp[nats,hel] at this
  simp only[IV] at hon
  simp(disch:=omega)[ltT,FL,hgg,hfx.symm,hxl,hxt]
  refine zab hon ?_
  simp(disch:=omega)[hap,hne,hTl,hel,leTn,hlt,zag,zaa,zad,FL,-Int.natCast_add]
  omega
 ·have hne:i=w.length:=by omega
  subst hne
  have:T w.length=zaW w:=by rw[hT,List.take_length]
  simp[this,FL]
theorem zlQ[HasR3e G][HasR21 G](r:TR)(hr:r.ok)(hm:r.may=true):FP G 369 [TV r] (.vs (nats .u8 r.byN) .no):=by
 refine zak HasR21.h_hurdleref21_Bytes (Nat.le_of_ble_eq_true rfl) ?_
 obtain⟨h1,h2,h3,h4,h5⟩:=hr
 simp only[TR.may,Bool.and_eq_true,decide_eq_true_eq] at hm
 obtain⟨⟨⟨m1,m2⟩,_⟩,_⟩:=hm
 obtain⟨a1,a2⟩:=zcN m1
 obtain⟨b1,b2⟩:=zcN m2
 have w1:=zkN (G:=G) r.fr (by omega) a2 h3
 have w2:=zkN (G:=G) r.to (by omega) b2 h4
 simp only[FL] at w1 w2
 obtain⟨v,hv⟩:∃ v,r.lv=v:=⟨_,rfl⟩
 have hvb:v<4294967296:=by omega
 have e2:remI (v:Int) 256=((v%256:Nat):Int):=remN v 256
 have q1:quoI .u32 (v:Int) 256=((v/256:Nat):Int):=zh8 (b:=256) hvb
 have q2:quoI .u32 (v:Int) 65536=((v/65536:Nat):Int):=zh8 (b:=65536) hvb
 have q3:quoI .u32 (v:Int) 16777216=((v/16777216:Nat):Int):=zh8 (b:=16777216) hvb
 have e3:remI ((v/256:Nat):Int) 256=((v/256%256:Nat):Int):=remN _ 256
 have e4:remI ((v/65536:Nat):Int) 256=((v/65536%256:Nat):Int):=remN _ 256
 obtain⟨B,hB⟩:∃ B:List Nat,B=lowL v 4++[r.fr.length%256,r.to.length%256]:=⟨_,rfl⟩
 have hBl:B.length=6:=by rw[hB]; simp[lowL]
 have hBe:[[V.int .u8 (v%256:Nat)],[V.int .u8 (v/256%256:Nat)],[V.int .u8 (v/65536%256:Nat)],[V.int .u8 (v/16777216%256:Nat)],[V.int .u8 (r.fr.length%256:Nat)],[V.int .u8 (r.to.length%256:Nat)]]=nats .u8 B:=by
  rw[hB]; simp[nats,lowL,List.range,List.range.loop]
 obtain⟨D1,hD1⟩:∃ D1,D1=B++zaW r.fr:=⟨_,rfl⟩
 have hD2:r.byN=D1++zaW r.to:=by rw[TR.byN,hv,←hB,←hD1]
 have l1:D1.length=6+8*r.fr.length:=by rw[hD1,List.length_append,hBl,zbC]
 have q1':(zaW r.fr).length=8*r.fr.length:=zbC _
 have q2':(zaW r.to).length=8*r.to.length:=zbC _
 have p1:nats .u8 B++nats .u8 (zaW r.fr)=nats .u8 D1:=by rw[hD1]; simp[nats]
 have p2:nats .u8 D1++nats .u8 (zaW r.to)=nats .u8 r.byN:=by rw[hD2]; simp[nats]
 have n1:∀ l:List Nat,(nats .u8 l=[])=(l=[]):=fun l=>by simp[nats]
 have n2:∀ w:List In4,(zaW w=[])=(w=[]):=fun w=>propext ⟨fun h=>List.eq_nil_of_length_eq_zero (by have:=zbC w; rw[h] at this; simp at this; omega),fun h=>by rw[h]; rfl⟩
 have hf0:¬r.fr=[]:=fun h=>by
  have:r.to.length<r.fr.length:=by assumption
  rw[h] at this; simp at this
 simp(disch:=omega)[TV,TR.cs,hv,q1,q2,q3,e2,e3,e4,zia,hBe,-Int.natCast_ediv,-Int.natCast_emod]
 refine zab w1 ?_
 by_cases h0:r.to=[]
 ·have e0:r.byN=D1:=by rw[hD2,h0]; simp[zaW]
  simp(disch:=omega)[n1,n2,hf0,hBl,q1',p1,leTn]
  refine zab w2 ?_
  simp(disch:=omega)[n1,n2,h0,e0]
 ·simp(disch:=omega)[n1,n2,hf0,hBl,q1',p1,leTn]
  refine zab w2 ?_
  simp(disch:=omega)[n1,n2,h0,l1,q2',p2,leTn]
theorem zqq:∀(i:Nat) {a b:List UInt8},a.take i=b.take i→i≤a.length→i≤b.length→Op.bytesLess a b=Op.bytesLess (a.drop i) (b.drop i)
 | 0,_,_,_,_,_=>rfl
 | i+1,[],_,_,h,_=>by simp at h
 | i+1,_::_,[],_,_,h=>by simp at h
 | i+1,x::a,y::b,h,h1,h2=>by
  simp only[List.take_succ_cons,List.cons.injEq] at h
  obtain⟨rfl,h⟩:=h
  have:=zqq i h (by simpa using h1) (by simpa using h2)
  simp[Op.bytesLess,this]
theorem zsP[HasR21 G](a b:List Nat)(ha:∀ x∈a,x<256)(hb:∀ x∈b,x<256)(la:a.length≤1000000)(lb:b.length≤1000000) :
  FP G 370 [.vs (nats .u8 a) .no,.vs (nats .u8 b) .no] (.bool (Op.bytesLess (a.map UInt8.ofNat) (b.map UInt8.ofNat))):=by
 refine zak HasR21.h_hurdleref21_less (Nat.le_of_ble_eq_true rfl) ?_
 simp
 refine W_up a.length (fun i=>[(0,.vs (nats .u8 a) .no),(1,.vs (nats .u8 b) .no),(5,.int .i64 i)]) (fun _=>[]) (fun i=>i≤b.length∧a.take i=b.take i) ?_ ?_
 ·simp[zaa,zad]
 rintro i hi ⟨hib,hP⟩
 have hD:=zqq (a:=a.map UInt8.ofNat) (b:=b.map UInt8.ofNat) i (by rw[←List.map_take,←List.map_take,hP]) (by simpa using hi) (by simpa using hib)
 by_cases h1:i<a.length
 ·by_cases h2:i<b.length
  ·obtain⟨x,hx⟩:∃ x,x=a[i]:=⟨_,rfl⟩
   obtain⟨y,hy⟩:∃ y,y=b[i]:=⟨_,rfl⟩
   have hxb:=ha x (by rw[hx]; exact List.getElem_mem h1)
   have hyb:=hb y (by rw[hy]; exact List.getElem_mem h2)
   have gx:a[i]?=some x:=by rw[hx]; exact List.getElem?_eq_getElem h1
   have gy:b[i]?=some y:=by rw[hy]; exact List.getElem?_eq_getElem h2
   have dx:(a.map UInt8.ofNat).drop i=UInt8.ofNat x::(a.map UInt8.ofNat).drop (i+1):=by rw[List.drop_eq_getElem_cons (by simpa using h1)]; simp[hx]
   have dy:(b.map UInt8.ofNat).drop i=UInt8.ofNat y::(b.map UInt8.ofNat).drop (i+1):=by rw[List.drop_eq_getElem_cons (by simpa using h2)]; simp[hy]
   rw[dx,dy] at hD
   have tx:(UInt8.ofNat x).toNat=x:=by simp; omega
   have ty:(UInt8.ofNat y).toNat=y:=by simp; omega
   by_cases e:x=y
   ·have hP2:a.take (i+1)=b.take (i+1):=by rw[List.take_add_one,List.take_add_one,hP,gx,gy,e]
    have hbne:((x:Int) !=(y:Int))=false:=by simp[e]
    simp(disch:=omega)[ltT,h1,h2,gx,gy,hx.symm,hy.symm,hbne,zag,zaa,zad,hP2,-Int.natCast_add]
    omega
   ·have hbne:((x:Int) !=(y:Int))=true:=by simp; omega
    have hne:¬UInt8.ofNat x=UInt8.ofNat y:=fun h=>e (by rw[←tx,←ty,h])
    have hR:Op.bytesLess (a.map UInt8.ofNat) (b.map UInt8.ofNat)=decide (x<y):=by
     rw[hD]
     simp only[Op.bytesLess]
     have:(UInt8.ofNat x<UInt8.ofNat y)=(x<y):=by rw[UInt8.lt_iff_toNat_lt,tx,ty]
     simp[this,hne]
    simp(disch:=omega)[ltT,h1,h2,gx,gy,hx.symm,hy.symm,hbne,hR,-Int.natCast_add]
  ·have hib':i=b.length:=by omega
   have hR:Op.bytesLess (a.map UInt8.ofNat) (b.map UInt8.ofNat)=false:=by
    rw[hD,List.drop_eq_nil_of_le (as:=b.map UInt8.ofNat) (by simp; omega)]
    cases(a.map UInt8.ofNat).drop i<;>rfl
   simp(disch:=omega)[ltT,h1,h2,hR]
   omega
 ·have hia:i=a.length:=by omega
  have hR:Op.bytesLess (a.map UInt8.ofNat) (b.map UInt8.ofNat)=decide (a.length<b.length):=by
   rw[hD,List.drop_eq_nil_of_le (as:=a.map UInt8.ofNat) (by simp; omega)]
   by_cases hlb:a.length<b.length
   ·rw[List.drop_eq_getElem_cons (by simp; omega)]
    simp[Op.bytesLess,hlb]
   ·rw[List.drop_eq_nil_of_le (by simp; omega)]
    simp[Op.bytesLess,hlb]
  subst hia
  simp[hR]
end Go.Ev
/- Layer 24: the law OptLearns. -/
namespace Go.Ev
open Go Go.RowKit
variable {G:Tbl}
theorem zuo[HasR2 G][HasR5o G][HasR17 G][HasR21 G](r:TR)(hr:r.ok)(h1:r.fr.length≤1000000)(h2:r.to.length≤1000000):FP G 368 [TV r] (.bool r.may):=by
 refine zak HasR21.h_hurdleref21_May (Nat.le_of_ble_eq_true rfl) ?_
 obtain⟨_,_,h3,h4,h5⟩:=hr
 have w1:=zls (G:=G) r.fr h1 h3
 have w2:=zls (G:=G) r.to h2 h4
 simp only[FL] at w1 w2
 simp[TV,TR.cs]
 refine zab w1 ?_
 cases e1:winB r.fr with
 | false=>simp[TR.may,e1]
 | true =>
  simp
  refine zab w2 ?_
  cases e2:winB r.to with
  | false=>simp[TR.may,e1,e2]
  | true =>
   by_cases hl:r.to.length<r.fr.length
   ·by_cases hv:r.lv<262144
    ·have hv':((r.lv:Int)<262144)=True:=eq_true (by omega)
     simp[TR.may,e1,e2,hl,hv,hv']
    ·have hv':((r.lv:Int)<262144)=False:=eq_false (by omega)
     simp[TR.may,e1,e2,hl,hv,hv']
   ·simp[TR.may,e1,e2,hl]
theorem zqr{r:TR}(h:r.may=true):r.byN.length≤1000:=by
 obtain⟨h1,h2⟩:=zeE h
 simp only[TR.byN,List.length_append,zkS,zbC,List.length_cons,List.length_nil]
 omega
theorem zrq[HasR2 G][HasR5o G][HasR17 G][HasR3e G][HasR21 G](t:List TR)(hl:t.length≤1000000)(hk:∀ r∈t,r.ok)(hs:∀ r∈t,r.fr.length≤1000000∧r.to.length≤1000000):FP G 371 [TF t] (.bool (tblB t)):=by
 refine zak HasR21.h_hurdleref21_Right (Nat.le_of_ble_eq_true rfl) ?_
 simp[TF]
 refine W_up t.length (fun i=>[(0,TF t),(3,.int .i64 i)]) (fun _=>[]) (fun i=>okT t i) ?_ ?_
 ·simp[zaa,zad,TF]
  intro j hj; omega
 intro i hi hP
 by_cases hlt:i<t.length
 ·obtain⟨x,hfx⟩:∃ x,x=t[i]:=⟨_,rfl⟩
  have hg:t[i]?=some x:=by rw[hfx]; exact List.getElem?_eq_getElem hlt
  have hgg:=zcZ hg
  have hxm:x∈t:=List.mem_of_getElem? hg
  have hxk:=hk x hxm
  have hxl:x.cs.length=3:=rfl
  have hxt:x.cs.take 3=x.cs:=rfl
  have hte:(TL t)[i]'(by simpa using hlt)=x.cs:=by simp[TL,hfx]
  have hrt:=zuo (G:=G) x hxk (hs x hxm).1 (hs x hxm).2
  simp(disch:=omega)[ltT,TF,hgg,hte,hxl,hxt]
  simp only[TV] at hrt
  refine zab hrt ?_
  cases hm:x.may with
  | false =>
   have hR:=zky hg (.inl hm)
   simp[hR]
  | true =>
   by_cases h0:0<i
   ·obtain⟨q,hq⟩:∃ q,q=t[i-1]'(by omega):=⟨_,rfl⟩
    have hgq:t[i-1]?=some q:=by rw[hq]; exact List.getElem?_eq_getElem (by omega)
    have hqe:(TL t)[i-1]'(by simp; omega)=q.cs:=by simp[TL,hq]
    have hqg:=zcZ hgq
    have hqm:=(hP (i-1) (by omega) q hgq).1
    have hqk:=hk q (List.mem_of_getElem? hgq)
    have hql:q.cs.length=3:=rfl
    have hqt:q.cs.take 3=q.cs:=rfl
    have b1:=zlQ (G:=G) q hqk hqm
    have b2:=zlQ (G:=G) x hxk hm
    have ls:=zsP (G:=G) q.byN x.byN (zpr q) (zpr x) (Nat.le_trans (zqr hqm) (by decide)) (Nat.le_trans (zqr hm) (by decide))
    rw[←zpq,←zpq] at ls
    simp only[TV] at b1 b2
    have s1:subI .i64 (i:Int) 1=((i-1:Nat):Int):=by rw[zct]<;>omega
    simp(disch:=omega)[h0,s1,hqg,hqe,hql,hqt,hgg,hte,hxl,hxt,leTn,ltTn]
    refine zab b1 ?_
    simp(disch:=omega)[hgg,hte,hxl,hxt,ltTn,hlt]
    refine zab b2 ?_
    simp
    refine zab ls ?_
    cases hlb:zcy q x with
    | false =>
     have hR:=zky hg (.inr ⟨q,h0,hgq,hlb⟩)
     have hlb':Op.bytesLess q.by x.by=false:=hlb
     simp[hlb',hR]
    | true =>
     have hlb':Op.bytesLess q.by x.by=true:=hlb
     have hP2:okT t (i+1):=fun j hj r hr=>by
      rcases Nat.lt_succ_iff_lt_or_eq.1 hj with h|rfl
      ·exact hP j h r hr
      ·rw[hg] at hr; cases hr
       exact⟨hm,fun q' _ hq'=>by rw[hgq] at hq'; cases hq'; exact hlb⟩
     simp(disch:=omega)[hlb',hlt,zag,zaa,zad,TF,-Int.natCast_add]
     exact hP2
   ·have hi0:i=0:=by omega
    subst hi0
    have hP2:okT t 1:=fun j hj r hr=>by
     have:j=0:=by omega
     subst this
     rw[hg] at hr; cases hr
     exact⟨hm,fun q h0=>absurd h0 (by omega)⟩
    have d0:addI .i64 0 1=1:=by rw[zaE]<;>omega
    simp(disch:=omega)[zaa,zad,TF,d0,hlt,hP2]
 ·have hne:i=t.length:=by omega
  subst hne
  have:=zqT hP
  by_cases h64:t.length≤64
  ·have h:((t.length:Int)≤64)=True:=eq_true (by omega)
   simp[this,h64,h,TF]
  ·have h:((t.length:Int)≤64)=False:=eq_false (by omega)
   simp[this,h64,h,TF]
theorem zsQ[HasR2 G][HasR5o G][HasR17 G][HasR3e G][HasR21 G][HasL21 G][HasL24g G](t:List TR)(hl:t.length≤1000000)(hk:∀ r∈t,r.ok)(hs:∀ r∈t,r.fr.length≤1000000∧r.to.length≤1000000):FP G 380 [TF t] (TF (goodT t)):=by
 refine zak HasL24g.h_hurdlelaw24_good (Nat.le_of_ble_eq_true rfl) ?_
 have ha:=zpW (G:=G) t hl
 have hr:=zrq (G:=G) t hl hk hs
 simp only[TF] at ha hr
 simp[TF]
 refine zab ha ?_
 simp
 refine zab hr ?_
 cases htb:tblB t with
 | false=>simp[goodT,htb,TL]
 | true=>simp[goodT,htb]
theorem zng{tries most:Int}:∀(k:Nat) {f:List In4} {t:List TR},(zaU tries most k f t).2.1≤k
 | 0,_,_=>Nat.le_refl _
 | k+1,f,t=>by
  rw[zaU]
  cases roundR f t tries most with
  | none=>exact Nat.zero_le _
  | some q =>
   have:=zng (tries:=tries) (most:=most) k (f:=q.1) (t:=q.2)
   simp only; omega
theorem zoV[HasWd G][HasNeg G][HasIns G][HasCheck G][HasData G][HasWith G][HasStep G][HasWRight G][HasWinRun G][HasWinAsg G][HasWinState G][HasWinOf G][HasAffApart G][HasAffine G][hBA:HasBitsA G][HasSymNew G][HasSym G][HasSymEval G][HasSymApart G][HasDecDf G][HasDec G][HasSrcN G][HasSrcL G][HasSrcC G][HasSrcF G][HasTells G][HasLive G][HasSpl G][HasEnc G][HasTbl G][HasPru G][HasOpt G]
  [HasR2 G][HasR5 G][HasR17 G][HasR3e G][HasR21 G][HasL21 G][HasL24k G][HasL24g G][HasL24 G]
  (hkn:FP G 379 [] (.bool true)) (f:List In4) (t:List TR) (a b c:Int) (hf:f.length≤maxLen) (hk:∀ x∈f,x.k<4294967296) (hl:t.length≤maxLen) (htk:∀ r∈t,r.ok) :
  FP G 383 [FL f,TF t,.agg [.int .i64 a,.int .i64 b,.int .i64 c]] (.bool true):=by
 refine zak HasL24.h_hurdlelaw24_OptLearns (Nat.le_of_ble_eq_true rfl) ?_
 have hgr:=zl8 (G:=G) f t a b c hl (fun r hr=>⟨(htk r hr).1,(htk r hr).2.1⟩)
 have hso:=zmS (G:=G) f hf hk
 simp only[FL,TF] at hgr hso
 simp[FL,TF]
 refine zab hgr ?_
 cases hg:zc3 f t a b c with
 | true =>
  simp
  refine zab hkn ?_
  simp
 | false =>
 simp
 refine zab hso ?_
 cases hs:zap f with
 | false =>
  simp
  refine zab hkn ?_
  simp
 | true =>
 obtain⟨l1,l2,l3⟩:=znI hg
 have hop:=zfU (G:=G) f t a b c hs hk ⟨by omega,htk⟩ (zf5 (zif htk))
 have ok:=ztp a b c hs hk (zif htk)
 have hgd:=zsQ (G:=G) t (by omega) htk (fun r hr=>by have:=l3 r hr; omega)
 have hgt:=zj1 t
 have hgk:=zf5 (zif htk)
 have hn:(optR f t a b c).2.1≤1000:=Nat.le_trans (zng _) (by unfold zaS; omega)
 obtain⟨Q,hQ⟩:∃ Q,Q=optR f t a b c:=⟨_,rfl⟩
 rw[←hQ] at hop ok hn
 obtain⟨⟨F,T⟩,n,dn⟩:=Q
 have otk:=ok.tk
 obtain⟨otb,g1,g2,g3⟩:=ok.tbl hgt
 simp only at otk otb g1 g2 g3 hop hn
 obtain⟨g,hge⟩:∃ g,g=goodT t:=⟨_,rfl⟩
 rw[←hge] at hgd g1 g2 g3 hgt hgk
 have gok:=ziY hgt hgk
 have tok:=ziY otb otk
 have h64:=(zgM otb).2
 have g64:=(zgM hgt).2
 have htr:=zhz (G:=G) T tok.1 tok.2
 rw[otb] at htr
 simp only[FL,TF,ResC] at hop htr hgd
 simp
 refine zab hop ?_
 simp[zaa]
 refine zab htr ?_
 simp
 refine zab hgd ?_
 have i1:((T.length:Int)<(g.length:Int))=False:=eq_false (by omega)
 simp[i1]
 refine zab hgd ?_
 have e1:addI .i64 (g.length:Int) (n:Int)=((g.length+n:Nat):Int):=addN (by omega)
 have i2:(((g.length+n:Nat):Int)<(T.length:Int))=False:=eq_false (by omega)
 simp[e1,i2,zaa,-Int.natCast_add]
 refine W_up T.length (fun i=>[(1,TF t),(7,.ptr 1 0),(9,.int .i64 i)]) (fun _=>[some (.cells [.int .i64 a,.int .i64 b,.int .i64 c]),some (.cells [.vs (IL F) .no,.vs (TL T) .no,.int .i64 n,.bool dn])]) (fun _=>True) ?_ ?_
 ·simp[zaa,zad,TF]
 intro i hi _
 by_cases hlt:i<T.length
 ·obtain⟨x,hfx⟩:∃ x,x=T[i]:=⟨_,rfl⟩
  have hgx:T[i]?=some x:=by rw[hfx]; exact List.getElem?_eq_getElem hlt
  have hgg:=zcZ hgx
  have hte:(TL T)[i]'(by simpa using hlt)=x.cs:=by simp[TL,hfx]
  have hxm:x∈T:=List.mem_of_getElem? hgx
  have hxk:=tok.2 x hxm
  have hxl:x.cs.length=3:=rfl
  have hxt:x.cs.take 3=x.cs:=rfl
  have hln:=znH (G:=G) g x gok.1 gok.2 hxk
  simp only[TF,TV] at hln
  simp(disch:=omega)[ltT,TF]
  refine zab hgd ?_
  simp(disch:=omega)[hgg,hte,hxl,hxt,hlt]
  refine zab hln ?_
  by_cases he:(zaQ g x).2=0∧(zaQ g x).1.length=g.length
  ·obtain⟨he1,he2⟩:=he
   simp(disch:=omega)[he1,zaa]
   refine zab hgd ?_
   simp(disch:=omega)[he2,hlt,zag,zaa,zad,TF,-Int.natCast_add]
  ·have hnew:winB x.fr=true∧winB x.to=true∧(decR x.fr x.to x.lv).1=0:=by
    rcases g3 x hxm with h|h
    ·rw[ztd hgt h] at he
     exact absurd ⟨rfl,rfl⟩ he
    ·exact h
   obtain⟨w1,w2,w3⟩:=hnew
   have hdc:=zjc (G:=G) x.fr x.to x.lv hxk.1 hxk.2.1 hxk.2.2.1 hxk.2.2.2.1 hxk.2.2.2.2
   obtain⟨A,hA⟩:∃ A,A=ansC 0 none:=⟨_,rfl⟩
   have lA:A.length=28:=by rw[hA]; rfl
   obtain⟨B,hB,kB,lB,B1⟩:∃(B:List V),B=ansC (decR x.fr x.to x.lv).1 (decR x.fr x.to x.lv).2∧(∀ n,clL n B=B)∧B.length=28∧B.take 1=[.int .i64 (decR x.fr x.to x.lv).1] :=
    ⟨_,rfl,fun n=>zhZ _ _ n,zkV x.fr x.to x.lv,zmf _ _⟩
   have hAz:V.int .i64 0::(zac .u32 (zae 20)++zac .u64 (zae 7))=A:=by rw[hA]; rfl
   have hBt:B.take 28=B:=List.take_of_length_le (by omega)
   have hBd:B.drop 28=[]:=List.drop_eq_nil_of_le (by omega)
   have hAd:A.drop 28=[]:=List.drop_eq_nil_of_le (by omega)
   rw[←hB] at hdc
   rw[w3] at B1
   simp only[FL,w1,w2,Bool.and_self,if_true] at hdc
   have hcs:x.cs=[.vs (IL x.fr) .no,.vs (IL x.to) .no,.int .u32 x.lv]:=rfl
   by_cases he1:(zaQ g x).2=0
   ·have he2:(((zaQ g x).1.length:Int)==(g.length:Int))=false:=beqF (by
     have:=fun h=>he ⟨he1,h⟩
     omega)
    simp(disch:=omega)[he1,zaa]
    refine zab hgd ?_
    simp(disch:=omega)[he2,zaa,hgg,hte,hcs,hlt,ltTn]
    refine zab hdc ?_
    simp(disch:=omega)[hAz,hAd,hBt,hBd,lA,lB,B1,kB,hlt,zag,zaa,zad,TF,-Int.natCast_add]
   ·have he1':((zaQ g x).2==0)=false:=beqF he1
    simp(disch:=omega)[he1',zaa,hgg,hte,hcs,hlt,ltTn]
    refine zab hdc ?_
    simp(disch:=omega)[hAz,hAd,hBt,hBd,lA,lB,B1,kB,hlt,zag,zaa,zad,TF,-Int.natCast_add]
 ·have hne:i=T.length:=by omega
  subst hne
  simp[ltT]
  refine zab hkn ?_
  simp
end Go.Ev
