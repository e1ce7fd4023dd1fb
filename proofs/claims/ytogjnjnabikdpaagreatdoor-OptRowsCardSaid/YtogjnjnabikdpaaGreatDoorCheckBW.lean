/- Which filters are sound: check.Check. -/
import Derived.Test.YtogjnjnabikdpaaGreatDoorSymJW
import Derived.Test.YtogjnjnabikdpaaGreatDoorEvInsCW
import Derived.Test.YtogjnjnabikdpaaGreatDoorEvXW
set_option linter.unusedSimpArgs false
set_option linter.unusedVariables false
set_option maxHeartbeats 4000000
set_option maxRecDepth 10000
namespace Go.Ev
open Go Go.RowKit
variable {G:Tbl}
theorem zlL{f:List In4}{i:Nat}(h:i<f.length):zaN (f.drop i)=(oneB f[i] (f.length-1-i)&&zaN (f.drop (i+1))):=by
 rw[List.drop_eq_getElem_cons h]
 simp only[zaN,List.length_drop]
 congr 2; omega
theorem zaY{f:List In4}{i:Nat}(h:i<f.length):(IL f)[i]?=some f[i].cs:=by simp[List.getElem?_eq_getElem h]
def Rch(f:List In4)(v:V):Prop:=∃ i e:Int,v=.tup [.int .i64 i,.int .i64 e]∧(e=0↔zao f=true)
theorem zol{f:List In4}(h0:f≠[])(h1:f.length≤4096)(h2:zaN f=true)(h3:zax (f[f.length-1]'(by have:=List.length_pos_iff.2 h0; omega)).op=true):zao f=true:=by
 have:f.getLast?=some (f[f.length-1]'(by have:=List.length_pos_iff.2 h0; omega)):=by rw[List.getLast?_eq_getElem?]; exact List.getElem?_eq_getElem _
 simp[zao,endB,h1,h2,this,h3]
theorem zk0{f:List In4}(h0:f≠[])(h3:zax (f[f.length-1]'(by have:=List.length_pos_iff.2 h0; omega)).op=false):zao f=false:=by
 have:f.getLast?=some (f[f.length-1]'(by have:=List.length_pos_iff.2 h0; omega)):=by rw[List.getLast?_eq_getElem?]; exact List.getElem?_eq_getElem _
 simp[zao,endB,this,h3]
theorem zlM{f:List In4}(h:zaN f=false):zao f=false:=by simp[zao,h]
def H2:Heap:=[some (.cells [.fn 149 []]),some (.map zd5)]
theorem zdA{x:In4}{i n:Nat}(h:i<n)(ht:(x.op==5||isBr x.op)=true) :
  (∀ w∈waysL x i,w<(n:Int))↔((if x.op=5 then decide (x.k<n-1-i) else true)&&(if isBr x.op then decide (x.jt<(n-1-i:Nat)∧x.jf<(n-1-i:Nat)) else true))=true:=by
 by_cases h5:x.op=5
 ·have e5:zax x.op=false:=by rw[h5]; decide
  have b5:isBr x.op=false:=by rw[h5]; decide
  rw[if_pos h5,b5]
  rw[h5] at e5
  simp only[waysL,e5,h5,Bool.false_eq_true,if_false,if_true,List.mem_singleton,forall_eq,Bool.and_true,decide_eq_true_eq]
  omega
 ·have hb:isBr x.op=true:=by simpa[h5,beqF] using ht
  have he:zax x.op=false:=by
   have key:∀ p∈[21,37,53,69,29,45,61,(77:Int)],zax p=false:=by decide
   exact key _ (by simpa[isBr] using hb)
  rw[if_neg h5,if_pos hb]
  simp only[waysL,he,h5,hb,Bool.false_eq_true,if_false,if_true,List.mem_cons,List.not_mem_nil,or_false,forall_eq_or_imp,forall_eq,Bool.true_and,decide_eq_true_eq]
  omega
theorem zhC{x:In4}(ht:(x.op==5||isBr x.op)=false)(left:Nat):((if x.op=5 then decide (x.k<left) else true)&&(if isBr x.op then decide (x.jt<left∧x.jf<left) else true))=true:=by
 simp only[Bool.or_eq_false_iff,beq_eq_false_iff_ne] at ht
 simp[ht.1,ht.2]
theorem zgg{x:In4}{left:Nat}(h1:zaV x=true)(h2:zbk x=true):oneB x left=((if x.op=5 then decide (x.k<left) else true)&&(if isBr x.op then decide (x.jt<left∧x.jf<left) else true)):=by
 simp[oneB,h1,h2]
theorem ziL(x:In4)(i:Nat):(waysL x i).length≤2:=by unfold waysL; split; simp; split; simp; split<;>simp
theorem ztG[HasIns G][HasCheck G](f:List In4)(hf:f.length≤maxLen)(hk:∀ x∈f,x.k<4294967296):∃ v,FP G 156 [FL f] v∧Rch f v:=by
 refine zj1 HasCheck.h_check_Check (Nat.le_of_ble_eq_true rfl) ?_
 by_cases h0:f=[]
 ·subst h0
  simp[FL]
  exact⟨0,5,rfl,by decide⟩
 have hne:0<f.length:=List.length_pos_iff.2 h0
 have hz:((f.length:Int)=0)=False:=eq_false (by omega)
 by_cases hbig:f.length>4096
 ·have hb:((4096:Int)<(f.length:Int))=True:=eq_true (by omega)
  have:zao f=false:=by simp[zao,show¬f.length≤4096 by omega]
  simp[FL,h0,hb,beqI]
  exact⟨0,3,rfl,by simp[this]⟩
 have hb:((4096:Int)<(f.length:Int))=False:=eq_false (by omega)
 simp[FL,h0,hb,beqI]
 refine zhx zu7 (by simp) ?_
 simp
 refine W_up f.length (fun i=>[(0,FL f),(4,.mp 1),(22,FL f),(23,.int .i64 f.length),(24,.int .i64 i)]) (fun _=>H2) (fun i=>zaN (f.take 0)=true∧zaN f=zaN (f.drop i)) ?_ ?_
 ·simp[zaa,zac,H2,zaG,FL,zaN]
 intro i hi hn
 by_cases hlt:i<f.length
 ·have hx:=zaY hlt
  have hg:f[i]∈f:=List.getElem_mem hlt
  have hkk:=hk _ hg
  have hdr:=zlL hlt
  have bad:oneB f[i] (f.length-1-i)=false→∀ j e:Int,e≠0→Rch f (.tup [.int .i64 j,.int .i64 e]):=by
   intro h j e he
   rw[h] at hdr
   exact⟨j,e,rfl,by simp[he,zlM (hn.2.trans hdr)]⟩
  generalize f[i]=x at hx hkk hdr hg bad
  have hr:=znW (G:=G) x
  have hbr:=zcf (G:=G) x
  simp[IV,In4.cs] at hr hbr
  simp(disch:=omega)[H2,ltT,FL,hx,In4.cs,beqI,-Int.natCast_add]
  refine zab hr ?_
  cases h1:zaV x
  ·simp
   exact bad (by simp[oneB,h1]) _ _ (by decide)
  simp[zrI]
  cases h2:rpos x.op with
  | none =>
   have hrule:=ztt h2
   by_cases h5:x.op=5
   ·have htg5:(x.op==5||isBr x.op)=true:=by simp[h5]
    have hb5:(x.op==5)=true:=by simp[h5]
    simp[hb5,zac,zaG,zaa]
    have hw:=ways_ok (G:=G) x i hkk (zb8 h1) (by omega)
    simp[IV,In4.cs] at hw
    have htg:∃ tg,tg=(x.op==5||isBr x.op):=⟨_,rfl⟩
    obtain⟨tg,htg⟩:=htg
    have hwl:=ziL x i
    have fin:(tg=true→∀ w∈waysL x i,w<(f.length:Int))→zaN f=zaN (f.drop (i+1)):=by
     intro hall
     rw[hn.2,hdr,zgg h1 hrule]
     cases tg with
     | false=>rw[zhC htg.symm]; simp
     | true=>rw[(zdA hlt htg.symm).1 (hall rfl)]; simp
    have bad':tg=true→∀ w∈waysL x i,¬w<(f.length:Int)→oneB x (f.length-1-i)=false:=by
     intro ht w hm hw'
     rw[zgg h1 hrule]
     rw[ht] at htg
     rw[←Bool.not_eq_true]
     intro h; exact hw' ((zdA hlt htg.symm).2 h w hm)
    have loop:∀(w:List Int),w.length≤2→(∀ v∈w,v∈waysL x i)→True:=fun _ _ _=>trivial
    generalize waysL x i=w at hw hwl fin bad' loop
    refine zab hw ?_
    simp
    refine W_up w.length (fun j=>[(0,FL f),(4,.mp 1),(5,.int .i64 i),(9,.bool tg),(22,FL f),(23,.int .i64 f.length),(24,.int .i64 i),(55,.vs (ints .i64 w) .no),(56,.int .i64 w.length),(57,.int .i64 j)])
     (fun _=>[some (.cells [.fn 149 []]),some (.map zd5),some (.cells [.int .i64 x.op,.int .i64 x.jt,.int .i64 x.jf,.int .u32 (x.k:Int)])]) (fun j=>tg=true→∀ v∈w.take j,v<(f.length:Int)) ?_ ?_
    ·simp[zaa,zac,FL,zaG,htg.trans htg5]
    intro j hj hp
    by_cases hjl:j<w.length
    ·by_cases hv:tg=true∧¬w[j]<(f.length:Int)
     ·have hb:=bad' hv.1 _ (List.getElem_mem hjl) hv.2
      have hv2:((f.length:Int)≤w[j])=True:=eq_true (by omega)
      simp(disch:=omega)[ltT,hjl,hv.1,hv2,FL,zal,-Int.natCast_add]
      exact bad hb i 4 (by decide)
     ·have hp':tg=true→∀ v∈w.take (j+1),v<(f.length:Int):=by
       intro ht v hm
       rw[List.take_add_one,List.getElem?_eq_getElem hjl] at hm
       simp only[Option.toList,List.mem_append,List.mem_singleton] at hm
       rcases hm with hm|rfl
       ·exact hp ht v hm
       ·exact Int.not_le.1 fun h=>hv ⟨ht,by omega⟩
      cases htt:tg with
      | false =>
       simp(disch:=omega)[ltT,hjl,FL,zal,zaa,zac,zaG,zag,-Int.natCast_add]
      | true =>
       have hv2:((f.length:Int)≤w[j])=False:=eq_false fun h=>hv ⟨htt,by omega⟩
       simp(disch:=omega)[ltT,hjl,FL,zal,hv2,zaa,zac,zaG,zag,-Int.natCast_add]
       rw[htt] at hp'
       exact hp' rfl
    ·have hjn:j=w.length:=by omega
     subst hjn
     rw[List.take_length] at hp
     have hfin:=fin hp
     simp(disch:=omega)[hlt,zaa,zac,zaG,H2,FL,zag,hfin,zaN,-Int.natCast_add]
   ·have htg5:(x.op==5||isBr x.op)=isBr x.op:=by simp[h5]
    simp[beqF,h5,zac,zaG,zaa]
    refine zab hbr ?_
    simp
    have hw:=ways_ok (G:=G) x i hkk (zb8 h1) (by omega)
    simp[IV,In4.cs] at hw
    have htg:∃ tg,tg=(x.op==5||isBr x.op):=⟨_,rfl⟩
    obtain⟨tg,htg⟩:=htg
    have hwl:=ziL x i
    have fin:(tg=true→∀ w∈waysL x i,w<(f.length:Int))→zaN f=zaN (f.drop (i+1)):=by
     intro hall
     rw[hn.2,hdr,zgg h1 hrule]
     cases tg with
     | false=>rw[zhC htg.symm]; simp
     | true=>rw[(zdA hlt htg.symm).1 (hall rfl)]; simp
    have bad':tg=true→∀ w∈waysL x i,¬w<(f.length:Int)→oneB x (f.length-1-i)=false:=by
     intro ht w hm hw'
     rw[zgg h1 hrule]
     rw[ht] at htg
     rw[←Bool.not_eq_true]
     intro h; exact hw' ((zdA hlt htg.symm).2 h w hm)
    have loop:∀(w:List Int),w.length≤2→(∀ v∈w,v∈waysL x i)→True:=fun _ _ _=>trivial
    generalize waysL x i=w at hw hwl fin bad' loop
    refine zab hw ?_
    simp
    refine W_up w.length (fun j=>[(0,FL f),(4,.mp 1),(5,.int .i64 i),(9,.bool tg),(22,FL f),(23,.int .i64 f.length),(24,.int .i64 i),(55,.vs (ints .i64 w) .no),(56,.int .i64 w.length),(57,.int .i64 j)])
     (fun _=>[some (.cells [.fn 149 []]),some (.map zd5),some (.cells [.int .i64 x.op,.int .i64 x.jt,.int .i64 x.jf,.int .u32 (x.k:Int)])]) (fun j=>tg=true→∀ v∈w.take j,v<(f.length:Int)) ?_ ?_
    ·simp[zaa,zac,FL,zaG,htg.trans htg5]
    intro j hj hp
    by_cases hjl:j<w.length
    ·by_cases hv:tg=true∧¬w[j]<(f.length:Int)
     ·have hb:=bad' hv.1 _ (List.getElem_mem hjl) hv.2
      have hv2:((f.length:Int)≤w[j])=True:=eq_true (by omega)
      simp(disch:=omega)[ltT,hjl,hv.1,hv2,FL,zal,-Int.natCast_add]
      exact bad hb i 4 (by decide)
     ·have hp':tg=true→∀ v∈w.take (j+1),v<(f.length:Int):=by
       intro ht v hm
       rw[List.take_add_one,List.getElem?_eq_getElem hjl] at hm
       simp only[Option.toList,List.mem_append,List.mem_singleton] at hm
       rcases hm with hm|rfl
       ·exact hp ht v hm
       ·exact Int.not_le.1 fun h=>hv ⟨ht,by omega⟩
      cases htt:tg with
      | false =>
       simp(disch:=omega)[ltT,hjl,FL,zal,zaa,zac,zaG,zag,-Int.natCast_add]
      | true =>
       have hv2:((f.length:Int)≤w[j])=False:=eq_false fun h=>hv ⟨htt,by omega⟩
       simp(disch:=omega)[ltT,hjl,FL,zal,hv2,zaa,zac,zaG,zag,-Int.natCast_add]
       rw[htt] at hp'
       exact hp' rfl
    ·have hjn:j=w.length:=by omega
     subst hjn
     rw[List.take_length] at hp
     have hfin:=fin hp
     simp(disch:=omega)[hlt,zaa,zac,zaG,H2,FL,zag,hfin,zaN,-Int.natCast_add]
  | some p =>
   obtain⟨n,fn⟩:=p
   obtain⟨e,he,hee⟩:=zwO (G:=G) x h2
   simp
   simp[RH,In4.cs,IV] at he
   refine zaF he (by simp) ?_
   by_cases h0e:e=0
   ·have hrule:=hee.1 h0e
    subst h0e
    by_cases h5:x.op=5
    ·have htg5:(x.op==5||isBr x.op)=true:=by simp[h5]
     have hb5:(x.op==5)=true:=by simp[h5]
     simp[hb5,zac,zaG,zaa]
     have hw:=ways_ok (G:=G) x i hkk (zb8 h1) (by omega)
     simp[IV,In4.cs] at hw
     have htg:∃ tg,tg=(x.op==5||isBr x.op):=⟨_,rfl⟩
     obtain⟨tg,htg⟩:=htg
     have hwl:=ziL x i
     have fin:(tg=true→∀ w∈waysL x i,w<(f.length:Int))→zaN f=zaN (f.drop (i+1)):=by
      intro hall
      rw[hn.2,hdr,zgg h1 hrule]
      cases tg with
      | false=>rw[zhC htg.symm]; simp
      | true=>rw[(zdA hlt htg.symm).1 (hall rfl)]; simp
     have bad':tg=true→∀ w∈waysL x i,¬w<(f.length:Int)→oneB x (f.length-1-i)=false:=by
      intro ht w hm hw'
      rw[zgg h1 hrule]
      rw[ht] at htg
      rw[←Bool.not_eq_true]
      intro h; exact hw' ((zdA hlt htg.symm).2 h w hm)
     have loop:∀(w:List Int),w.length≤2→(∀ v∈w,v∈waysL x i)→True:=fun _ _ _=>trivial
     generalize waysL x i=w at hw hwl fin bad' loop
     refine zab hw ?_
     simp
     refine W_up w.length (fun j=>[(0,FL f),(4,.mp 1),(5,.int .i64 i),(9,.bool tg),(22,FL f),(23,.int .i64 f.length),(24,.int .i64 i),(55,.vs (ints .i64 w) .no),(56,.int .i64 w.length),(57,.int .i64 j)])
      (fun _=>[some (.cells [.fn 149 []]),some (.map zd5),some (.cells [.int .i64 x.op,.int .i64 x.jt,.int .i64 x.jf,.int .u32 (x.k:Int)])]) (fun j=>tg=true→∀ v∈w.take j,v<(f.length:Int)) ?_ ?_
     ·simp[zaa,zac,FL,zaG,htg.trans htg5]
     intro j hj hp
     by_cases hjl:j<w.length
     ·by_cases hv:tg=true∧¬w[j]<(f.length:Int)
      ·have hb:=bad' hv.1 _ (List.getElem_mem hjl) hv.2
       have hv2:((f.length:Int)≤w[j])=True:=eq_true (by omega)
       simp(disch:=omega)[ltT,hjl,hv.1,hv2,FL,zal,-Int.natCast_add]
       exact bad hb i 4 (by decide)
      ·have hp':tg=true→∀ v∈w.take (j+1),v<(f.length:Int):=by
        intro ht v hm
        rw[List.take_add_one,List.getElem?_eq_getElem hjl] at hm
        simp only[Option.toList,List.mem_append,List.mem_singleton] at hm
        rcases hm with hm|rfl
        ·exact hp ht v hm
        ·exact Int.not_le.1 fun h=>hv ⟨ht,by omega⟩
       cases htt:tg with
       | false =>
        simp(disch:=omega)[ltT,hjl,FL,zal,zaa,zac,zaG,zag,-Int.natCast_add]
       | true =>
        have hv2:((f.length:Int)≤w[j])=False:=eq_false fun h=>hv ⟨htt,by omega⟩
        simp(disch:=omega)[ltT,hjl,FL,zal,hv2,zaa,zac,zaG,zag,-Int.natCast_add]
        rw[htt] at hp'
        exact hp' rfl
     ·have hjn:j=w.length:=by omega
      subst hjn
      rw[List.take_length] at hp
      have hfin:=fin hp
      simp(disch:=omega)[hlt,zaa,zac,zaG,H2,FL,zag,hfin,zaN,-Int.natCast_add]
    ·have htg5:(x.op==5||isBr x.op)=isBr x.op:=by simp[h5]
     simp[beqF,h5,zac,zaG,zaa]
     refine zab hbr ?_
     simp
     have hw:=ways_ok (G:=G) x i hkk (zb8 h1) (by omega)
     simp[IV,In4.cs] at hw
     have htg:∃ tg,tg=(x.op==5||isBr x.op):=⟨_,rfl⟩
     obtain⟨tg,htg⟩:=htg
     have hwl:=ziL x i
     have fin:(tg=true→∀ w∈waysL x i,w<(f.length:Int))→zaN f=zaN (f.drop (i+1)):=by
      intro hall
      rw[hn.2,hdr,zgg h1 hrule]
      cases tg with
      | false=>rw[zhC htg.symm]; simp
      | true=>rw[(zdA hlt htg.symm).1 (hall rfl)]; simp
     have bad':tg=true→∀ w∈waysL x i,¬w<(f.length:Int)→oneB x (f.length-1-i)=false:=by
      intro ht w hm hw'
      rw[zgg h1 hrule]
      rw[ht] at htg
      rw[←Bool.not_eq_true]
      intro h; exact hw' ((zdA hlt htg.symm).2 h w hm)
     have loop:∀(w:List Int),w.length≤2→(∀ v∈w,v∈waysL x i)→True:=fun _ _ _=>trivial
     generalize waysL x i=w at hw hwl fin bad' loop
     refine zab hw ?_
     simp
     refine W_up w.length (fun j=>[(0,FL f),(4,.mp 1),(5,.int .i64 i),(9,.bool tg),(22,FL f),(23,.int .i64 f.length),(24,.int .i64 i),(55,.vs (ints .i64 w) .no),(56,.int .i64 w.length),(57,.int .i64 j)])
      (fun _=>[some (.cells [.fn 149 []]),some (.map zd5),some (.cells [.int .i64 x.op,.int .i64 x.jt,.int .i64 x.jf,.int .u32 (x.k:Int)])]) (fun j=>tg=true→∀ v∈w.take j,v<(f.length:Int)) ?_ ?_
     ·simp[zaa,zac,FL,zaG,htg.trans htg5]
     intro j hj hp
     by_cases hjl:j<w.length
     ·by_cases hv:tg=true∧¬w[j]<(f.length:Int)
      ·have hb:=bad' hv.1 _ (List.getElem_mem hjl) hv.2
       have hv2:((f.length:Int)≤w[j])=True:=eq_true (by omega)
       simp(disch:=omega)[ltT,hjl,hv.1,hv2,FL,zal,-Int.natCast_add]
       exact bad hb i 4 (by decide)
      ·have hp':tg=true→∀ v∈w.take (j+1),v<(f.length:Int):=by
        intro ht v hm
        rw[List.take_add_one,List.getElem?_eq_getElem hjl] at hm
        simp only[Option.toList,List.mem_append,List.mem_singleton] at hm
        rcases hm with hm|rfl
        ·exact hp ht v hm
        ·exact Int.not_le.1 fun h=>hv ⟨ht,by omega⟩
       cases htt:tg with
       | false =>
        simp(disch:=omega)[ltT,hjl,FL,zal,zaa,zac,zaG,zag,-Int.natCast_add]
       | true =>
        have hv2:((f.length:Int)≤w[j])=False:=eq_false fun h=>hv ⟨htt,by omega⟩
        simp(disch:=omega)[ltT,hjl,FL,zal,hv2,zaa,zac,zaG,zag,-Int.natCast_add]
        rw[htt] at hp'
        exact hp' rfl
     ·have hjn:j=w.length:=by omega
      subst hjn
      rw[List.take_length] at hp
      have hfin:=fin hp
      simp(disch:=omega)[hlt,zaa,zac,zaG,H2,FL,zag,hfin,zaN,-Int.natCast_add]
   ·have hrb:zbk x=false:=by rw[←Bool.not_eq_true]; exact fun h=>h0e (hee.2 h)
    simp[bneT,h0e,zac,zaG]
    exact bad (by simp[oneB,hrb]) _ _ h0e
 ·have hin:i=f.length:=by omega
  subst hin
  have hlt:f.length-1<f.length:=by omega
  have hx:=zaY hlt
  have h2:=hn.2
  rw[List.drop_length] at h2
  have hs1:=zol h0 (by omega) h2
  have hs2:=zk0 h0
  generalize f[f.length-1]=x at hx hs1 hs2
  have he:=ziG (G:=G) x
  simp[IV,In4.cs] at he
  have hsub:subI .i64 (f.length:Int) 1=((f.length-1:Nat):Int):=zl9 (by have:maxLen≤9223372036854775807:=(by decide); omega)
  simp[FL,hsub,hx,In4.cs]
  refine zab he ?_
  cases hen:zax x.op
  ·simp
   exact⟨_,5,rfl,by simp[hs2 hen]⟩
  ·simp
   exact⟨_,0,rfl,by simp[hs1 hen]⟩
theorem zfs[HasIns G][HasCheck G](f:List In4)(hf:f.length≤maxLen)(hk:∀ x∈f,x.k<4294967296):FP G 157 [FL f] (.bool (zao f)):=by
 refine zak HasCheck.h_check_Sound (Nat.le_of_ble_eq_true rfl) ?_
 obtain⟨v,hv,i,e,rfl,he⟩:=ztG (G:=G) f hf hk
 simp
 refine zab hv ?_
 have:(e==0)=zao f:=by rw[Bool.eq_iff_iff,beq_iff_eq]; exact he
 simp[this]
end Go.Ev
/- Which filters are sound, by hurdleref05. -/
namespace Go.Ev
open Go Go.RowKit
variable {G:Tbl}
theorem zft(n:Nat)(h:n<18446744073709551616):zaP .u64 (n:Int)=(n:Int):=by unfold zaP; exact IntWalk.u64_in _ ⟨by omega,by omega⟩
theorem zrT[HasR2 G][HasR5o G](x:In4)(at' n:Nat)(hx:x.k<4294967296)(ha:at'<n)(hn:n≤maxLen):∃ v,FP G 186 [IV x,.int .i64 at',.int .i64 n] v∧∃ e:Int,v=.int .i64 e∧(e=0↔oneB x (n-1-at')=true):=by
 refine zj1 HasR5o.h_hurdleref05_One (Nat.le_of_ble_eq_true rfl) ?_
 have hr:=zrH (G:=G) x
 have hbr:=zc3 (G:=G) x
 have hm:maxLen≤9223372036854775807:=by decide
 have s1:subI .i64 (n:Int) 1=((n-1:Nat):Int):=zl9 (by omega)
 have s2:subI .i64 ((n-1:Nat):Int) (at':Int)=((n-1-at':Nat):Int):=by rw[zaK]<;>omega
 have hl:n-1-at'<9223372036854775808:=by omega
 generalize n-1-at'=left at s2 hl
 obtain⟨op,jt,jf,k⟩:=x
 have hx:k<4294967296:=hx
 have r4:remI (k:Int) 4=((k%4:Nat):Int):=zkB (b:=4)
 have h4:(((k%4:Nat):Int)=0)=(k%4=0):=propext (by omega)
 have h60:(60<(k:Int))=(60<k):=propext (by omega)
 have h15:(15<(k:Int))=(15<k):=propext (by omega)
 have h31:(31<(k:Int))=(31<k):=propext (by omega)
 have c1:zaP .u64 (k:Int)=(k:Int):=zft k (by omega)
 have c2:zaP .u64 (left:Int)=(left:Int):=zft left (by omega)
 have hle:((left:Int)≤(k:Int))=(left≤k):=propext (by omega)
 simp[IV,In4.cs] at hr hbr ⊢
 refine zab hr ?_
 cases h1:zaV ⟨op,jt,jf,k⟩
 ·simp[oneB,h1]
 clear hr
 simp
 by_cases o32:op=32
 ·subst o32
  have e1:isBr 32=false:=by decide
  rw[e1] at hbr
  by_cases hk4:k%4=0
  ·by_cases hk:60<k
   ·simp[r4,h4,hk4,h60,hk,beqI,-Int.natCast_emod,oneB,zbk]
    intro _ h; omega
   ·have:k<64:=by omega
    simp[r4,h4,hk4,h60,hk,beqI,s1,s2,-Int.natCast_emod]
    refine zab hbr ?_
    simp[oneB,zbk,h1,hk4,this,e1]
  ·have h40:(((k%4:Nat):Int) !=0)=true:=by simp[-Int.natCast_emod,h4,hk4]
   simp[r4,h40,hk4,h60,beqI,-Int.natCast_emod,oneB,zbk]
 by_cases o52:op=52
 ·subst o52
  have e1:isBr 52=false:=by decide
  rw[e1] at hbr
  by_cases hk4:k=0
  ·simp[hk4,beqI,oneB,zbk]
  ·have:((k:Int)=0)=False:=eq_false (by omega)
   simp[this,hk4,beqI,s1,s2]
   refine zab hbr ?_
   simp[oneB,zbk,h1,hk4,e1]
 by_cases oa:op=2∨op=3∨op=96∨op=97
 ·have e1:isBr op=false:=by rcases oa with rfl|rfl|rfl|rfl<;>decide
  have hru:zbk ⟨op,jt,jf,k⟩=decide (k<16):=by rcases oa with rfl|rfl|rfl|rfl<;>rfl
  have n5:¬op=5:=by omega
  rw[e1] at hbr
  by_cases hk:15<k
  ·have:oneB ⟨op,jt,jf,k⟩ left=false:=by simp[oneB,hru]; intro _ h; omega
   rcases oa with rfl|rfl|rfl|rfl<;>simp[h15,hk,beqI,this]
  ·have:oneB ⟨op,jt,jf,k⟩ left=true:=by simp[oneB,hru,h1,e1,n5]; omega
   rcases oa with rfl|rfl|rfl|rfl<;>simp[h15,hk,beqI,s1,s2]<;>refine zab hbr ?_<;>simp[this]
 by_cases ob:op=100∨op=116
 ·have e1:isBr op=false:=by rcases ob with rfl|rfl<;>decide
  have hru:zbk ⟨op,jt,jf,k⟩=decide (k<32):=by rcases ob with rfl|rfl<;>rfl
  have n5:¬op=5:=by omega
  rw[e1] at hbr
  by_cases hk:31<k
  ·have:oneB ⟨op,jt,jf,k⟩ left=false:=by simp[oneB,hru]; intro _ h; omega
   rcases ob with rfl|rfl<;>simp[h31,hk,beqI,this]
  ·have:oneB ⟨op,jt,jf,k⟩ left=true:=by simp[oneB,hru,h1,e1,n5]; omega
   rcases ob with rfl|rfl<;>simp[h31,hk,beqI,s1,s2]<;>refine zab hbr ?_<;>simp[this]
 have hru:zbk ⟨op,jt,jf,k⟩=true:=by simp[zbk,o32,o52,oa,ob]
 by_cases o5:op=5
 ·subst o5
  have e1:isBr 5=false:=by decide
  rw[e1] at hbr
  by_cases hk:left≤k
  ·have:oneB ⟨5,jt,jf,k⟩ left=false:=by simp[oneB,hru]; intro _ h; omega
   simp[s1,s2,c1,c2,hle,hk,this]
  ·have:oneB ⟨5,jt,jf,k⟩ left=true:=by simp[oneB,hru,h1,e1]; omega
   simp[s1,s2,c1,c2,hle,hk]
   refine zab hbr ?_
   simp[this]
 have ne:∀ o:Int,op≠o→(op==o)=false:=fun o h=>beqF h
 have n2:=ne 2 (by omega)
 have n3:=ne 3 (by omega)
 have n96:=ne 96 (by omega)
 have n97:=ne 97 (by omega)
 have n100:=ne 100 (by omega)
 have n116:=ne 116 (by omega)
 simp[ne 32 o32,ne 52 o52,ne 5 o5,n2,n3,n96,n97,n100,n116,s1,s2]
 refine zab hbr ?_
 cases hb:isBr op
 ·simp[oneB,h1,hru,hb,o5]
 ·simp
  by_cases ht:(left:Int)≤jt
  ·have:oneB ⟨op,jt,jf,k⟩ left=false:=by simp[oneB,hb]; intros; omega
   simp[ht,this]
  ·by_cases hf:(left:Int)≤jf
   ·have:oneB ⟨op,jt,jf,k⟩ left=false:=by simp[oneB,hb]; intros; omega
    simp[ht,hf,this]
   ·have:oneB ⟨op,jt,jf,k⟩ left=true:=by simp[oneB,hb,h1,hru,o5]; omega
    simp[ht,hf,this]
theorem zrU[HasR2 G][HasR5 G](f:List In4)(hf:f.length≤maxLen)(hk:∀ x∈f,x.k<4294967296):∃ v,FP G 187 [FL f] v∧Rch f v:=by
 refine zj1 HasR5.h_hurdleref05_Check (Nat.le_of_ble_eq_true rfl) ?_
 by_cases h0:f=[]
 ·subst h0
  simp[FL]
  exact⟨0,5,rfl,by decide⟩
 have hne:0<f.length:=List.length_pos_iff.2 h0
 by_cases hbig:f.length>4096
 ·have hb:((4096:Int)<(f.length:Int))=True:=eq_true (by omega)
  have:zao f=false:=by simp[zao,show¬f.length≤4096 by omega]
  simp[FL,h0,hb,beqI]
  exact⟨0,3,rfl,by simp[this]⟩
 have hb:((4096:Int)<(f.length:Int))=False:=eq_false (by omega)
 simp[FL,h0,hb,beqI]
 refine W_up f.length (fun i=>[(0,FL f),(4,.int .i64 i)]) (fun _=>[]) (fun i=>zaN f=zaN (f.drop i)) ?_ ?_
 ·simp[zaa,zac,FL]
 intro i hi hn
 by_cases hlt:i<f.length
 ·have hx:=zaY hlt
  have hg:f[i]∈f:=List.getElem_mem hlt
  have hkk:=hk _ hg
  have hdr:=zlL hlt
  obtain⟨v,ho,e,rfl,he⟩:=zrT (G:=G) f[i] i f.length hkk hlt hf
  generalize f[i]=x at hx hkk hdr hg ho he
  simp[IV,In4.cs] at ho
  simp(disch:=omega)[ltT,FL,hx,In4.cs,hlt,-Int.natCast_add]
  refine zab ho ?_
  by_cases h0e:e=0
  ·have:=he.1 h0e
   rw[this,Bool.true_and] at hdr
   have hn2:=hn.trans hdr
   simp(disch:=omega)[h0e,hlt,zag,zaa,zac,FL,hn2,-Int.natCast_add]
  ·have hrb:oneB x (f.length-1-i)=false:=by rw[←Bool.not_eq_true]; exact fun h=>h0e (he.2 h)
   rw[hrb] at hdr
   simp[bneT,h0e]
   exact⟨_,_,rfl,by simp[h0e,zlM (hn.trans hdr)]⟩
 ·have hin:i=f.length:=by omega
  subst hin
  have hlt:f.length-1<f.length:=by omega
  have hx:=zaY hlt
  rw[List.drop_length] at hn
  have hs1:=zol h0 (by omega) hn
  have hs2:=zk0 h0
  generalize f[f.length-1]=x at hx hs1 hs2
  have he:=zlH (G:=G) x
  simp[IV,In4.cs] at he
  have hsub:subI .i64 (f.length:Int) 1=((f.length-1:Nat):Int):=zl9 (by have:maxLen≤9223372036854775807:=(by decide); omega)
  simp[FL,hsub,hx,In4.cs]
  refine zab he ?_
  cases hen:zax x.op
  ·simp
   exact⟨_,5,rfl,by simp[hs2 hen]⟩
  ·simp
   exact⟨_,0,rfl,by simp[hs1 hen]⟩
theorem zm7[HasR2 G][HasR5 G](f:List In4)(hf:f.length≤maxLen)(hk:∀ x∈f,x.k<4294967296):FP G 188 [FL f] (.bool (zao f)):=by
 refine zak HasR5.h_hurdleref05_Sound (Nat.le_of_ble_eq_true rfl) ?_
 obtain⟨v,hv,i,e,rfl,he⟩:=zrU (G:=G) f hf hk
 simp
 refine zab hv ?_
 have:(e==0)=zao f:=by rw[Bool.eq_iff_iff,beq_iff_eq]; exact he
 simp[this]
def zeZ(x:In4)(m:Nat):Bool:=!zax x.op&&(if isBr x.op then decide ((m:Int)=x.jt)||decide ((m:Int)=x.jf) else if x.op=5 then decide (m=x.k) else decide (m=0))
def nxL(x:In4)(i m:Nat):List Int:=((List.range m).filter (zeZ x)).map fun(j:Nat)=>((i+1+j:Nat):Int)
theorem ztH(x:In4)(i m:Nat):nxL x i (m+1)=nxL x i m++(if zeZ x m=true then [((i+1+m:Nat):Int)] else []):=by
 unfold nxL
 rw[List.range_succ,List.filter_append,List.map_append]
 congr 1
 simp only[List.filter_cons,List.filter_nil]
 split<;>rfl
theorem zp7(x:In4)(i m:Nat):(nxL x i m).length≤m:=by
 unfold nxL; rw[List.length_map]; exact Nat.le_trans (List.length_filter_le _ _) (by simp)
theorem zvH[HasR2 G][HasR5 G][HasR5n G](f:List In4)(i:Nat)(x:In4)(hi:f[i]?=some x)(hf:f.length≤10000)(hk:x.k<4294967296):FP G 189 [FL f,.int .i64 i] (.vs (ints .i64 (nxL x i (f.length-1-i))) .no):=by
 refine zak HasR5n.h_hurdleref05_Next (Nat.le_of_ble_eq_true rfl) ?_
 have hm:maxLen≤9223372036854775807:=by decide
 obtain⟨hlt,hx⟩:=List.getElem?_eq_some_iff.1 hi
 have hg:=zaY hlt
 rw[hx] at hg
 have a1:addI .i64 (i:Int) 1=((i+1:Nat):Int):=zag (by omega)
 have hbr:=zc3 (G:=G) x
 have he:=zlH (G:=G) x
 simp[IV,In4.cs] at hbr he
 have hcs:x.cs=[.int .i64 x.op,.int .i64 x.jt,.int .i64 x.jf,.int .u32 (x.k:Int)]:=rfl
 simp(disch:=omega)[FL,hg,hcs,ltT,a1,-Int.natCast_add]
 refine W_up (f.length-1-i) (fun m=>[(0,FL f),(1,.int .i64 i),(5,.ptr 0 0),(6,.vs (ints .i64 (nxL x i m)) (.own 1)),(7,.int .i64 ((i+1+m:Nat):Int))])
  (fun m=>[some (.cells x.cs),some (.zone (nxL x i m).length)]) (fun _=>True) ?_ ?_
 ·simp[zaa,zac,FL,nxL,In4.cs]
 intro m hml _
 by_cases hmlt:m<f.length-1-i
 ·have s1:subI .i64 ((i+1+m:Nat):Int) (i:Int)=((1+m:Nat):Int):=by rw[zaK]<;>omega
  have s2:subI .i64 ((1+m:Nat):Int) 1=(m:Int):=by rw[zaK]<;>omega
  have a2:addI .i64 ((i+1+m:Nat):Int) 1=((i+1+(m+1):Nat):Int):=zag (by omega)
  have hl:((i+1+m:Nat):Int)<(f.length:Int):=by omega
  have c1:zaP .u64 (m:Int)=(m:Int):=zft m (by omega)
  have c2:zaP .u64 (x.k:Int)=(x.k:Int):=zft x.k (by omega)
  have hlen:=zp7 x i m
  have wlast:∀ w:Bool,zeZ x m=w→(if w=true then nxL x i (m+1)=nxL x i m++[((i+1+m:Nat):Int)] else nxL x i (m+1)=nxL x i m):=by
   intro w hw
   rw[ztH,hw]
   cases w<;>simp
  have tt:(true=true)=True:=eq_true rfl
  have hother:zax 5=false:=by decide
  have hob:isBr 5=false:=by decide
  have hmz:((m:Int)=0)=(m=0):=propext (by omega)
  have hmk:((m:Int)=(x.k:Int))=(m=x.k):=propext (by omega)
  by_cases h5:x.op=5
  ·have hb5:(x.op==5)=true:=by simp[h5]
   have hbf:isBr x.op=false:=by rw[h5]; decide
   have hef:zax x.op=false:=by rw[h5]; decide
   rw[hbf] at hbr; rw[hef] at he
   have hw:zeZ x m=decide (m=x.k):=by simp[zeZ,hbf,hef,h5,hother,hob]
   by_cases hk2:m=x.k
   ·have hk3:((m:Int)==(x.k:Int))=true:=by simp[hk2]
    have wl:=wlast _ (hw.trans (decide_eq_true hk2))
    simp only[if_true] at wl
    have:(nxL x i (m+1)).length=(nxL x i m).length+1:=by rw[wl]; simp
    simp(disch:=omega)[FL,ltT hl,s1,s2,hcs,hb5,c1,c2,hk3,-Int.natCast_add]
    refine zab hbr ?_
    simp(disch:=omega)[-Int.natCast_add]
    refine zab he ?_
    simp(disch:=omega)[leTn,a2,hmlt,zaa,zac,wl,In4.cs,FL,-Int.natCast_add]
   ·have hk3:((m:Int)==(x.k:Int))=false:=beqF (by omega)
    have wl:=wlast _ (hw.trans (decide_eq_false hk2))
    simp only[Bool.false_eq_true,if_false] at wl
    simp(disch:=omega)[FL,ltT hl,s1,s2,hcs,hb5,c1,c2,hk3,-Int.natCast_add]
    refine zab hbr ?_
    simp(disch:=omega)[leTn,a2,hmlt,zaa,zac,wl,In4.cs,FL,-Int.natCast_add]
  ·have hb5:(x.op==5)=false:=beqF h5
   simp(disch:=omega)[FL,ltT hl,s1,s2,hcs,hb5,-Int.natCast_add]
   refine zab hbr ?_
   cases hbf:isBr x.op
   ·have hw:zeZ x m=(decide (m=0)&&!zax x.op):=by simp[zeZ,hbf,h5,Bool.and_comm]
    by_cases hm0:m=0
    ·have hm1:((m:Int)==0)=true:=by simp[hm0]
     simp(disch:=omega)[hm1,-Int.natCast_add]
     refine zab he ?_
     rw[decide_eq_true hm0,Bool.true_and] at hw
     cases hef:zax x.op
     ·have wl:=wlast _ (hw.trans (by rw[hef]))
      simp only[Bool.not_false,if_true] at wl
      have:(nxL x i (m+1)).length=(nxL x i m).length+1:=by rw[wl]; simp
      simp(disch:=omega)[leTn,a2,hmlt,zaa,zac,wl,In4.cs,FL,-Int.natCast_add]
     ·have wl:=wlast _ (hw.trans (by rw[hef]))
      simp only[Bool.not_true,Bool.false_eq_true,if_false] at wl
      simp(disch:=omega)[leTn,a2,hmlt,zaa,zac,wl,In4.cs,FL,-Int.natCast_add]
    ·have hm1:((m:Int)==0)=false:=beqF (by omega)
     rw[decide_eq_false hm0,Bool.false_and] at hw
     have wl:=wlast _ hw
     simp only[Bool.false_eq_true,if_false] at wl
     simp(disch:=omega)[hm1,leTn,a2,hmlt,zaa,zac,wl,In4.cs,FL,-Int.natCast_add]
   ·have hef:zax x.op=false:=by
     have key:∀ p∈[21,37,53,69,29,45,61,(77:Int)],zax p=false:=by decide
     exact key _ (by simpa[isBr] using hbf)
    rw[hef] at he
    have hw:zeZ x m=(decide ((m:Int)=x.jt)||decide ((m:Int)=x.jf)):=by simp[zeZ,hbf,hef]
    by_cases h1:(m:Int)=x.jt
    ·have h1b:((m:Int)==x.jt)=true:=by simp[h1]
     have wl:=wlast _ (hw.trans (by rw[decide_eq_true h1,Bool.true_or]))
     simp only[if_true] at wl
     have:(nxL x i (m+1)).length=(nxL x i m).length+1:=by rw[wl]; simp
     simp(disch:=omega)[h1b,-Int.natCast_add]
     refine zab he ?_
     simp(disch:=omega)[leTn,a2,hmlt,zaa,zac,wl,In4.cs,FL,-Int.natCast_add]
    ·have h1b:((m:Int)==x.jt)=false:=beqF h1
     by_cases h2:(m:Int)=x.jf
     ·have h2b:((m:Int)==x.jf)=true:=by simp[h2]
      have wl:=wlast _ (hw.trans (by rw[decide_eq_true h2,Bool.or_true]))
      simp only[if_true] at wl
      have:(nxL x i (m+1)).length=(nxL x i m).length+1:=by rw[wl]; simp
      simp(disch:=omega)[h1b,h2b,-Int.natCast_add]
      refine zab he ?_
      simp(disch:=omega)[leTn,a2,hmlt,zaa,zac,wl,In4.cs,FL,-Int.natCast_add]
     ·have h2b:((m:Int)==x.jf)=false:=beqF h2
      have wl:=wlast _ (hw.trans (by rw[decide_eq_false h1,decide_eq_false h2,Bool.or_false]))
      simp only[Bool.false_eq_true,if_false] at wl
      simp(disch:=omega)[h1b,h2b,leTn,a2,hmlt,zaa,zac,wl,In4.cs,FL,-Int.natCast_add]
 ·have hne:m=f.length-1-i:=by omega
  subst hne
  have hl:¬((i+1+(f.length-1-i):Nat):Int)<(f.length:Int):=by omega
  simp[FL,ltF hl,-Int.natCast_add]
end Go.Ev
/- Which instructions are a window: window.Right, hurdleref17.Right; and hurdleref03.Same. -/
namespace Go.Ev
open Go Go.RowKit
variable {G:Tbl}
def zbS(x:In4):Bool:=!(x.op==5)&&!isBr x.op&&!zax x.op
def zaJ(x:In4):Bool:=zbS x&&zaV x&&zbk x
def winB(w:List In4):Bool:=decide (w.length≤32)&&w.all zaJ
def RET:In4:=⟨22,0,0,0⟩
theorem ziM{x:In4}(h:zbS x=true):x.op≠5∧isBr x.op=false∧zax x.op=false:=by
 simp only[zbS,Bool.and_eq_true,Bool.not_eq_true',beq_eq_false_iff_ne] at h
 exact⟨h.1.1,h.1.2,h.2⟩
theorem zjw{x:In4}(h:zbS x=true)(left:Nat):oneB x left=(zaV x&&zbk x):=by
 obtain⟨h1,h2,h3⟩:=ziM h
 simp[oneB,h1,h2]
theorem zm8:∀{w:List In4} (z:In4),(∀ x∈w,zbS x=true)→zaN (w++[z])=((w.all fun x=>zaV x&&zbk x)&&oneB z 0)
 | [],z,_=>by simp[zaN]
 | x::w,z,h=>by
  rw[List.cons_append,zaN,zm8 z fun y hy=>h y (by simp[hy]),zjw (h x (by simp))]
  simp[Bool.and_assoc]
theorem zrV{w:List In4}(h:∀ x∈w,zbS x=true)(hl:w.length≤32):zao (w++[RET])=w.all zaJ:=by
 have h1:endB (w++[RET])=true:=by simp[endB]; decide
 have h2:oneB RET 0=true:=by decide
 have h3:(w++[RET]).length≤4096:=by simp; omega
 simp only[zao,zm8 RET h,h1,h2,h3,Bool.and_true,decide_true,Bool.true_and]
 rw[Bool.eq_iff_iff,List.all_eq_true,List.all_eq_true]
 constructor
 ·intro h' x hx
  simp only[zaJ,h x hx,Bool.true_and]; exact h' x hx
 ·intro h' x hx
  have:=h' x hx
  simpa only[zaJ,h x hx,Bool.true_and] using this
theorem zb1[HasIns G][HasCheck G][HasWRight G](w:List In4)(hf:w.length≤maxLen)(hk:∀ x∈w,x.k<4294967296):FP G 202 [FL w] (.bool (winB w)):=by
 refine zak HasWRight.h_window_Right (Nat.le_of_ble_eq_true rfl) ?_
 by_cases hb:w.length>32
 ·have h1:((32:Int)<(w.length:Int))=True:=eq_true (by omega)
  simp[FL,h1,winB,show¬w.length≤32 by omega]
 have h1:((32:Int)<(w.length:Int))=False:=eq_false (by omega)
 have hle:w.length≤32:=by omega
 simp[FL,h1]
 refine W_up w.length (fun i=>[(0,FL w),(8,FL w),(9,.int .i64 w.length),(10,.int .i64 i)]) (fun _=>[]) (fun i=>∀ x∈w.take i,zbS x=true) ?_ ?_
 ·simp[zaa,zac,FL]
 intro i hi hp
 by_cases hlt:i<w.length
 ·obtain⟨x,hfx⟩:∃ x,x=w[i]:=⟨_,rfl⟩
  have hgg:=zaY hlt
  rw[←hfx] at hgg
  have hfx:=hfx.symm
  have hxm:x∈w:=hfx▸List.getElem_mem hlt
  have hbr:=zcf (G:=G) x
  have hen:=ziG (G:=G) x
  have hcs:x.cs=[.int .i64 x.op,.int .i64 x.jt,.int .i64 x.jf,.int .u32 (x.k:Int)]:=rfl
  simp[IV,hcs] at hbr hen
  have bad:zbS x=false→winB w=false:=by
   intro h
   have:w.all zaJ=false:=by
    rw[←Bool.not_eq_true,List.all_eq_true]
    intro h2
    have:=h2 x hxm
    simp only[zaJ,h,Bool.false_and,Bool.false_eq_true] at this
   simp[winB,this]
  by_cases h5:x.op=5
  ·have b5:(x.op==5)=true:=by simp[h5]
   simp(disch:=omega)[ltT,FL,hgg,hfx,hcs,b5,bad (by simp[zbS,h5])]
  have b5:(x.op==5)=false:=beqF h5
  simp(disch:=omega)[ltT,FL,hgg,hfx,hcs,b5]
  refine zab hbr ?_
  cases hb:isBr x.op
  ·simp
   refine zab hen ?_
   cases he:zax x.op
   ·have hp':∀ y∈w.take (i+1),zbS y=true:=by
     intro y hy
     rw[List.take_add_one,List.getElem?_eq_getElem hlt,hfx] at hy
     simp only[Option.toList,List.mem_append,List.mem_singleton] at hy
     rcases hy with hy|rfl
     ·exact hp y hy
     ·simp[zbS,h5,hb,he]
    simp(disch:=omega)[hlt,zag,zaa,zac,FL,-Int.natCast_add]
    exact hp'
   ·simp[bad (by simp[zbS,he])]
  ·simp[bad (by simp[zbS,hb])]
 ·have hne:i=w.length:=by omega
  subst hne
  rw[List.take_length] at hp
  have hs:=zfs (G:=G) (w++[RET]) (by rw[List.length_append]; have:maxLen=9223372036854775807:=(by decide); simp; omega) (fun x hx=>by
   rcases List.mem_append.1 hx with h|h
   ·exact hk x h
   ·simp only[List.mem_singleton] at h; subst h; decide)
  rw[zrV hp hle] at hs
  have hw:w.all zaJ=winB w:=by simp[winB,hle]
  rw[hw] at hs
  have hret:IL w++[[V.int .i64 22,.int .i64 0,.int .i64 0,.int .u32 0]]=IL (w++[RET]):=zkX w RET
  have hret0:[[V.int .i64 22,.int .i64 0,.int .i64 0,.int .u32 0]]=IL ([]++[RET]):=rfl
  simp only[FL] at hs
  by_cases hw0:w=[]
  ·subst hw0
   simp only[List.nil_append,←hret0] at hs
   simp[FL]
   refine zab hs ?_
   simp
  ·simp(disch:=omega)[FL,zeY,hw0,leTn,hret]
   refine zab hs ?_
   simp
theorem zgJ[HasR2 G][HasR5o G][HasR17 G](w:List In4)(hf:w.length≤1000000)(hk:∀ x∈w,x.k<4294967296):FP G 203 [FL w] (.bool (winB w)):=by
 refine zak HasR17.h_hurdleref17_Right (Nat.le_of_ble_eq_true rfl) ?_
 simp
 refine W_up w.length (fun i=>[(0,FL w),(3,.int .i64 i)]) (fun _=>[]) (fun i=>(w.take i).all zaJ=true) ?_ ?_
 ·simp[zaa,zac,FL]
 intro i hi hp
 by_cases hlt:i<w.length
 ·obtain⟨x,hfx⟩:∃ x,x=w[i]:=⟨_,rfl⟩
  have hgg:=zaY hlt
  rw[←hfx] at hgg
  have hfx:=hfx.symm
  have hxm:x∈w:=hfx▸List.getElem_mem hlt
  have hbr:=zc3 (G:=G) x
  have hen:=zlH (G:=G) x
  obtain⟨v,hon,e,rfl,he0⟩:=zrT (G:=G) x 0 2 (hk x hxm) (by decide) (by decide)
  have hcs:x.cs=[.int .i64 x.op,.int .i64 x.jt,.int .i64 x.jf,.int .u32 (x.k:Int)]:=rfl
  simp[IV,hcs] at hbr hen hon
  have bad:zaJ x=false→winB w=false:=by
   intro h
   have:w.all zaJ=false:=by
    rw[←Bool.not_eq_true,List.all_eq_true]
    intro h2
    have:=h2 x hxm
    rw[h] at this; cases this
   simp[winB,this]
  by_cases h5:x.op=5
  ·have b5:(x.op==5)=true:=by simp[h5]
   simp(disch:=omega)[ltT,FL,hgg,hfx,hcs,b5,bad (by simp[zaJ,zbS,h5])]
  have b5:(x.op==5)=false:=beqF h5
  simp(disch:=omega)[ltT,FL,hgg,hfx,hcs,b5]
  refine zab hbr ?_
  cases hb:isBr x.op
  ·simp(disch:=omega)[ltT,FL,hgg,hfx,hcs]
   refine zab hen ?_
   cases he:zax x.op
   ·simp(disch:=omega)[ltT,FL,hgg,hfx,hcs]
    refine zab hon ?_
    have hgo:zbS x=true:=by simp[zbS,h5,hb,he]
    rw[zjw hgo] at he0
    by_cases hez:e=0
    ·have hpl:zaJ x=true:=by simp only[zaJ,hgo,Bool.true_and]; exact he0.1 hez
     have hp':(w.take (i+1)).all zaJ=true:=by
      rw[List.take_add_one,List.getElem?_eq_getElem hlt,hfx,List.all_append,hp]
      simp[hpl]
     simp(disch:=omega)[hez,hlt,zag,zaa,zac,FL,-Int.natCast_add]
     simpa using hp'
    ·have hpl:zaJ x=false:=by
      rw[←Bool.not_eq_true]; intro h
      simp only[zaJ,hgo,Bool.true_and] at h
      exact hez (he0.2 h)
     simp[bneT hez,bad hpl]
   ·simp[bad (by simp[zaJ,zbS,he])]
  ·simp[bad (by simp[zaJ,zbS,hb])]
 ·have hne:i=w.length:=by omega
  subst hne
  rw[List.take_length] at hp
  by_cases hl:w.length≤32
  ·simp[FL,winB,hp,hl,leT,show((w.length:Int)≤32)=True from eq_true (by omega)]
  ·simp[FL,winB,hp,hl,show((w.length:Int)≤32)=False from eq_false (by omega)]
@[simp] theorem zBI (x:In4):x.cs.take 4=x.cs:=rfl
theorem zg0(f:List In4)(n:Nat):(IL f).drop n=IL (f.drop n):=by simp[IL]
theorem zg1(f:List In4)(n:Nat):(IL f).take n=IL (f.take n):=by simp[IL]
theorem aeq4(x y:In4):eqks [.int,.int,.int,.int] x.cs y.cs=some (decide (x=y)):=by
 obtain⟨a,b,c,d⟩:=x
 obtain⟨a',b',c',d'⟩:=y
 simp only[In4.cs,eqks,eqk,if_true,Bool.and_true,Option.some.injEq,In4.mk.injEq]
 rw[Bool.eq_iff_iff]
 simp only[Bool.and_eq_true,beq_iff_eq,decide_eq_true_eq]
 omega
theorem zjx[HasR3 G](f g:List In4)(hf:f.length≤1000000):FP G 201 [FL f,FL g] (.bool (decide (f=g))):=by
 refine zak HasR3.h_hurdleref03_Same (Nat.le_of_ble_eq_true rfl) ?_
 by_cases hl:f.length=g.length
 ·have hz:((f.length:Int) !=(g.length:Int))=false:=by simp[hl]
  simp[FL,hz]
  refine W_up f.length (fun i=>[(0,FL f),(1,FL g),(5,.int .i64 i)]) (fun _=>[]) (fun i=>f.take i=g.take i) ?_ ?_
  ·simp[zaa,zac,FL]
  intro i hi hp
  by_cases hlt:i<f.length
  ·obtain⟨x,hfx⟩:∃ x,x=f[i]:=⟨_,rfl⟩
   have hlt2:i<g.length:=by omega
   obtain⟨y,hfy⟩:∃ y,y=g[i]:=⟨_,rfl⟩
   have hgg:=zaY hlt
   have hgg2:=zaY hlt2
   rw[←hfx] at hgg
   rw[←hfy] at hgg2
   have hfx:=hfx.symm
   have hfy:=hfy.symm
   have ha:=aeq4 x y
   by_cases hxy:x=y
   ·rw[decide_eq_true hxy] at ha
    have hp':f.take (i+1)=g.take (i+1):=by
     rw[List.take_add_one,List.take_add_one,hp,List.getElem?_eq_getElem hlt,List.getElem?_eq_getElem hlt2,hfx,hfy,hxy]
    simp(disch:=omega)[ltT,FL,hgg,hgg2,hfx,hfy,ha,hlt,zag,zaa,zac,hp',-Int.natCast_add]
   ·rw[decide_eq_false hxy] at ha
    have hne:¬f=g:=by
     rintro rfl
     exact hxy (hfx.symm.trans hfy)
    simp(disch:=omega)[ltT,FL,hgg,hgg2,hfx,hfy,ha,hne,-Int.natCast_add]
  ·have hne:i=f.length:=by omega
   subst hne
   rw[List.take_length,hl,List.take_length] at hp
   simp[FL,hp]
 ·have hz:((f.length:Int) !=(g.length:Int))=true:=by simp; omega
  have:¬f=g:=fun h=>hl (by rw[h])
  simp[FL,hz,this]
end Go.Ev
/- The values behind an instruction of a window. -/
namespace Go.Ev
open Go Go.RowKit
variable {G:Tbl}
variable {H:Heap} {b z m:Nat} {L:List Nd}
structure VS where
 L:List Nd
 p:List Int
 st:List Int
def vcs(p st:List Int)(tk:Tk):List V:=za7 .i64 p++[.vs (ints .i64 st) tk]
section
variable {p st:List Int} {tk:Tk}
theorem zeK(hp:p.length=18):(vcs p st tk).length=19:=by simp[vcs,hp]
theorem zfu{i:Nat}(hp:p.length=18)(hi:i<18):((vcs p st tk).drop i).take 1=[.int .i64 (p[i]'(by omega))]:=by
 rw[vcs,List.drop_append_of_le_length (by simp; omega),zl8,List.drop_eq_getElem_cons (by omega)]
 rfl
theorem zkq{i:Nat}(x:Int)(hp:p.length=18)(hi:i<18):(vcs p st tk).take i++(.int .i64 x::(vcs p st tk).drop (i+1))=vcs (p.set i x) st tk:=by
 rw[vcs,vcs,List.take_append_of_le_length (by simp; omega),List.drop_append_of_le_length (by simp; omega),←zsE .i64 p i x (by omega)]
 simp
theorem zom(hp:p.length=18):(vcs p st tk).take 1=[.int .i64 (p[0]'(by omega))]:=zfu (i:=0) hp (by omega)
theorem ztI(hp:p.length=18):(vcs p st tk).tail.take 1=[.int .i64 (p[1]'(by omega))]:=by rw[←List.drop_one]; exact zfu hp (by omega)
theorem ztJ(x:Int)(hp:p.length=18):.int .i64 x::(vcs p st tk).tail=vcs (p.set 0 x) st tk:=by rw[←List.drop_one]; exact zkq (i:=0) x hp (by omega)
theorem ztK(x:Int)(hp:p.length=18):(vcs p st tk).take 1++(.int .i64 x::(vcs p st tk).drop 2)=vcs (p.set 1 x) st tk:=zkq (i:=1) x hp (by omega)
theorem zoo(hp:p.length=18):((vcs p st tk).drop 18).take 1=[.vs (ints .i64 st) tk]:=by
 rw[vcs,List.drop_left' (by simp[hp])]; rfl
theorem zrW(st':List Int)(tk':Tk)(hp:p.length=18):(vcs p st tk).take 18++(.vs (ints .i64 st') tk'::(vcs p st tk).drop 19)=vcs p st' tk':=by
 rw[vcs,vcs,List.take_left' (by simp[hp]),List.drop_eq_nil_of_le (by simp[hp])]
theorem zop(hp:p.length=18):(vcs p st tk).take 19=vcs p st tk:=List.take_of_length_le (by rw[zeK hp]; omega)
theorem zrX(n z2:Nat)(h:z2<n):clL n (vcs p st (.own z2))=vcs p st (.own z2):=by
 rw[zan,vcs]
 simp[za7,Function.comp_def,V.cl,Tk.cl,h]
end
noncomputable def byV(s:VS)(x:In4):Int×List Nd:=if(aluT x.op).2.1=true then(s.p.getD 1 0,s.L) else putN s.L (zas (x.k::zae 34))
noncomputable def zaE(s:VS)(x:In4):VS :=
 if(aluT x.op).2.2=true then
  ⟨(bAlu (byV s x).2 (aluT x.op).1 (s.p.getD 0 0) (byV s x).1).2,s.p.set 0 (bAlu (byV s x).2 (aluT x.op).1 (s.p.getD 0 0) (byV s x).1).1,
   if(aluT x.op).2.1=true∧(aluT x.op).1=52 then s.st++[s.p.getD 1 0] else s.st⟩
 else if x.op=0 then⟨(putN s.L (zas (x.k::zae 34))).2,s.p.set 0 (putN s.L (zas (x.k::zae 34))).1,s.st⟩
 else if x.op=1 then⟨(putN s.L (zas (x.k::zae 34))).2,s.p.set 1 (putN s.L (zas (x.k::zae 34))).1,s.st⟩
 else if x.op=32 then⟨(varN s.L (18+(x.k/4:Nat))).2,s.p.set 0 (varN s.L (18+(x.k/4:Nat))).1,s.st⟩
 else if x.op=96 then⟨s.L,s.p.set 0 (s.p.getD (2+x.k) 0),s.st⟩
 else if x.op=97 then⟨s.L,s.p.set 1 (s.p.getD (2+x.k) 0),s.st⟩
 else if x.op=2 then⟨s.L,s.p.set (2+x.k) (s.p.getD 0 0),s.st⟩
 else if x.op=3 then⟨s.L,s.p.set (2+x.k) (s.p.getD 1 0),s.st⟩
 else if x.op=132 then⟨(bNeg s.L (s.p.getD 0 0)).2,s.p.set 0 (bNeg s.L (s.p.getD 0 0)).1,s.st⟩
 else if x.op=7 then⟨s.L,(s.p.set 1 (s.p.getD 0 0)).set 0 (s.p.getD 0 0),s.st⟩
 else if x.op=135 then⟨s.L,s.p.set 0 (s.p.getD 1 0),s.st⟩
 else s
theorem Bk.setz{z2 k n:Nat}(h:Bk H b z m L)(h2:H[z2]?=some (some (.zone k)))(hne:z2≠z):Bk (H.set z2 (some (.zone n))) b z m L:=by
 have e1:z2≠b:=fun e=>by rw[e,h.hb] at h2; simp[zd0] at h2
 have e2:z2≠m:=fun e=>by rw[e,h.hm] at h2; simp at h2
 refine⟨by rw[List.getElem?_set_ne e1]; exact h.hb,by rw[List.getElem?_set_ne hne]; exact h.hz,by rw[List.getElem?_set_ne e2]; exact h.hm,fun n hn=>?_,h.ok,h.small⟩
 rw[List.length_set] at hn
 rw[zjb,h.shut n hn]
 rfl
theorem ztL{z2 k:Nat}(h:Bk H b z m L)(h2:H[z2]?=some (some (.zone k)))(hne:z2≠z)(x:Option Blk)(L':List Nd):upd (H.set z2 x) b z m L'=(upd H b z m L').set z2 x:=by
 have e1:z2≠b:=fun e=>by rw[e,h.hb] at h2; simp[zd0] at h2
 have e2:z2≠m:=fun e=>by rw[e,h.hm] at h2; simp at h2
 unfold upd
 rw[List.set_comm _ _ e1,List.set_comm _ _ hne,List.set_comm _ _ e2]
theorem ztM{z2 k:Nat}(h:Bk H b z m L)(h2:H[z2]?=some (some (.zone k)))(hne:z2≠z)(L':List Nd):(upd H b z m L')[z2]?=some (some (.zone k)):=by
 have e1:b≠z2:=fun e=>by rw[←e,h.hb] at h2; simp[zd0] at h2
 have e2:m≠z2:=fun e=>by rw[←e,h.hm] at h2; simp at h2
 unfold upd
 rw[List.getElem?_set_ne e2,List.getElem?_set_ne (Ne.symm hne),List.getElem?_set_ne e1]
 exact h2
section
variable {α:Type} {H l:List α} {n:Nat} (h:H.length=n)
include h
theorem apn0:(H++l)[n]?=l[0]?:=by subst h; exact ap0 H l
theorem apnk(k:Nat):(H++l)[n+k]?=l[k]?:=by subst h; exact apk H l k
theorem zbW(x:α):(H++l).set n x=H++l.set 0 x:=by subst h; exact set0 H l x
theorem zcD(k:Nat)(x:α):(H++l).set (n+k) x=H++l.set k x:=by subst h; exact setk H l k x
end
theorem zrY[HasWd G][HasNeg G][HasIns G][HasAffine G][HasBits G][HasSym G][HasWinOf G](s:VS)(x:In4)(z2:Nat)(h:Bk H b z m s.L)(hz2:H[z2]?=some (some (.zone s.st.length)))(hne:z2≠z)(hi:Inv s.L)(hs:s.L.length<900000)
  (hp:s.p.length=18) (hst:s.st.length≤1000) (hk:x.k<4294967296) (hx:zaJ x=true) :
  SF G 295 [.ptr b 0,.agg (vcs s.p s.st (.own z2)),IV x] H (.agg (vcs (zaE s x).p (zaE s x).st (.own z2))) ((upd H b z m (zaE s x).L).set z2 (some (.zone (zaE s x).st.length))):=by
 refine zbz HasWinOf.h_window_step (Nat.le_of_ble_eq_true rfl) ?_
 have hlz:=(List.getElem?_eq_some_iff.1 hz2).1
 have hlb:=h.lb
 obtain⟨Z,hZ⟩:∃ Z:List V,Z=vcs (List.replicate 18 0) [] .full:=⟨_,rfl⟩
 have lZ:Z.length=19:=by rw[hZ]; rfl
 have drop19:Z.drop 19=[]:=List.drop_eq_nil_of_le (by omega)
 have kZ:∀ n,clL n Z=Z:=fun n=>by rw[hZ]; simp[vcs,za7,clL,V.cl]
 have hal:=ziH (G:=G) x
 have hxl:x.cs.length=4:=rfl
 have hxt:x.cs.take 4=x.cs:=rfl
 have kx:∀ n,clL n x.cs=x.cs:=fun n=>by simp[In4.cs,clL,V.cl]
 have x0:x.cs.take 1=[.int .i64 x.op]:=rfl
 have x3:(x.cs.drop 3).take 1=[.int .u32 (x.k:Int)]:=rfl
 have hZz:[V.int .i64 0,.int .i64 0,.int .i64 0,.int .i64 0,.int .i64 0,.int .i64 0,.int .i64 0,.int .i64 0,.int .i64 0,.int .i64 0,.int .i64 0,.int .i64 0,.int .i64 0,.int .i64 0,.int .i64 0,.int .i64 0,.int .i64 0,.int .i64 0,.vs [] .full]=Z:=by rw[hZ]; rfl
 -- the cells of values
 obtain⟨W,hW⟩:∃ W:List Int→List Int→List V,∀ p st,W p st=vcs p st (.own z2):=⟨_,fun _ _=>rfl⟩
 have Wl:∀ p st,p.length=18→(W p st).length=19:=fun p st hp=>by rw[hW]; exact zeK hp
 have Wt:∀ p st,p.length=18→(W p st).take 19=W p st:=fun p st hp=>by rw[hW]; exact zop hp
 have Wc:∀ p st n,z2<n→clL n (W p st)=W p st:=fun p st n hn=>by rw[hW]; exact zrX n z2 hn
 have W0:∀ p st,(hp:p.length=18)→(W p st).take 1=[.int .i64 (p[0]'(by omega))]:=fun p st hp=>by rw[hW]; exact zom hp
 have W1:∀ p st,(hp:p.length=18)→(W p st).tail.take 1=[.int .i64 (p[1]'(by omega))]:=fun p st hp=>by rw[hW]; exact ztI hp
 have Ws:∀ p st,p.length=18→((W p st).drop 18).take 1=[.vs (ints .i64 st) (.own z2)]:=fun p st hp=>by rw[hW]; exact zoo hp
 have S0:∀ p st (v:Int),p.length=18→.int .i64 v::(W p st).tail=W (p.set 0 v) st:=fun p st v hp=>by rw[hW,hW]; exact ztJ v hp
 have S1:∀ p st (v:Int),p.length=18→(W p st).take 1++(.int .i64 v::(W p st).drop 2)=W (p.set 1 v) st:=fun p st v hp=>by rw[hW,hW]; exact ztK v hp
 have Ss:∀ p st st',p.length=18→(W p st).take 18++(.vs (ints .i64 st') (.own z2)::(W p st).drop 19)=W p st':=fun p st st' hp=>by rw[hW,hW]; exact zrW st' _ hp
 have Wg:∀ p st (k:Nat),(hp:p.length=18)→(hk:k<16)→((W p st).drop (2+k)).take 1=[.int .i64 (p[2+k]'(by omega))]:=fun p st k hp hk=>by rw[hW]; exact zfu hp (by omega)
 have Wk:∀ p st (k:Nat) (v:Int),p.length=18→k<16→(W p st).take (2+k)++(.int .i64 v::(W p st).drop (2+k+1))=W (p.set (2+k) v) st:=fun p st k v hp hk=>by rw[hW,hW]; exact zkq v hp (by omega)
 have S1b:∀ v:Int,V.int .i64 (s.p[0]'(by omega))::.int .i64 v::(W s.p s.st).drop 2=W (s.p.set 1 v) s.st:=fun v=>by
  have:=S1 s.p s.st v hp
  rw[W0 _ _ hp] at this
  exact this
 have g0:s.p.getD 0 0=s.p[0]'(by omega):=by rw[List.getD_eq_getElem?_getD,zal (by omega)]; rfl
 have g1:s.p.getD 1 0=s.p[1]'(by omega):=by rw[List.getD_eq_getElem?_getD,zal (by omega)]; rfl
 have hsp:∀(i:Nat) (v:Int),(s.p.set i v).length=18:=fun i v=>by rw[List.length_set]; exact hp
 have bR:∀(H':Heap) (L':List Nd) (C':List V),H'.length=H.length→Bk H' b z m L'→(∀ n,z2<n→clL n C'=C')→Bk (H'++[some (.cells C'),some (.cells x.cs),some (.cells Z)]) b z m L':=fun H' L' C' hl hB hc =>
  hB.app2 fun n hn=>by simp at hn; simp[Blk.cl,kx,kZ,hc n (by omega)]
 have bk':∀(L':List Nd),(upd H b z m L').set z2 (some (.zone s.st.length))=upd H b z m L':=fun L'=>zeC (ztM h hz2 hne L')
 rw[←hW,←hW]
 simp[IV,Wl _ _ hp,hxl,hxt,hZz,ap0,apk,set0,setk,leTn,leFn]
 refine zab hal ?_
 cases hal2:(aluT x.op).2.2 with
 | true =>
  cases hal1:(aluT x.op).2.1 with
  | false =>
   obtain⟨q,hq⟩:∃ q,q=putN s.L (zas (x.k::zae 34)):=⟨_,rfl⟩
   have hby:byV s x=q:=by rw[byV,hal1,hq]; rfl
   obtain⟨r,hr⟩:∃ r,r=bAlu q.2 (aluT x.op).1 s.p[0] q.1:=⟨_,rfl⟩
   have hV:zaE s x=⟨r.2,s.p.set 0 r.1,s.st⟩:=by rw[zaE,if_pos hal2,hby,g0,←hr,hal1]; rfl
   have e1:Ext s.L q.2 1:=by rw[hq]; exact(zbN hi (zbV (by simp) (zcA hk) _)).1
   have l1:=e1.len
   obtain⟨H1,hH1⟩:∃ H1,H1=upd H b z m q.2:=⟨_,rfl⟩
   have n1:H1.length=H.length:=by rw[hH1,zbf]
   have B1:Bk H1 b z m q.2:=by rw[hH1]; exact h.to e1.inv (by omega)
   have c1:=zeI (G:=G) x.k (bR H s.L (W s.p s.st) rfl h (fun n hn=>Wc _ _ n hn)) (by omega)
   rw[BF,←hq,h.upd_app,←hH1] at c1
   obtain⟨H2,hH2⟩:∃ H2,H2=upd H b z m r.2:=⟨_,rfl⟩
   have n2:H2.length=H.length:=by rw[hH2,zbf]
   have c2:=zkU (G:=G) (aluT x.op).1 s.p[0] q.1 (bR H1 q.2 (W s.p s.st) n1 B1 (fun n hn=>Wc _ _ n hn)) e1.inv (by omega)
   rw[BF,←hr,B1.upd_app,show upd H1 b z m r.2=H2 by rw[hH1,hH2,h.upd_upd]] at c2
   have fin:∀ r',zac H.length (H2++r')=H2:=fun r'=>by rw[hH2]; exact h.back _ r'
   have bz:H2.set z2 (some (.zone s.st.length))=H2:=by rw[hH2]; exact bk' _
   rw[hV]
   simp only[←hH2]
   simp[IV,Wl _ _ hp,Wl _ _ (hsp _ _),Wt _ _ hp,Wt _ _ (hsp _ _),W0 _ _ hp,W1 _ _ hp,Ws _ _ hp,S0 _ _ _ hp,S1 _ _ _ hp,S1b,Ss _ _ _ hp,hxl,hxt,lZ,drop19,x0,x3,leTn,leFn,ap0,apk,set0,setk]
   refine zai c1 ?_
   simp[IV,Wl _ _ hp,Wl _ _ (hsp _ _),Wt _ _ hp,Wt _ _ (hsp _ _),W0 _ _ hp,W1 _ _ hp,Ws _ _ hp,S0 _ _ _ hp,S1 _ _ _ hp,S1b,Ss _ _ _ hp,hxl,hxt,lZ,drop19,x0,x3,leTn,leFn,n1,apn0 n1,apnk n1,zbW n1,zcD n1]
   refine zai c2 ?_
   simp[IV,Wl _ _ hp,Wl _ _ (hsp _ _),Wt _ _ hp,Wt _ _ (hsp _ _),W0 _ _ hp,W1 _ _ hp,Ws _ _ hp,S0 _ _ _ hp,S1 _ _ _ hp,S1b,Ss _ _ _ hp,hxl,hxt,lZ,drop19,x0,x3,leTn,leFn,n2,apn0 n2,apnk n2,zbW n2,zcD n2,fin,Wc _ _ _ hlz,bz]
  | true =>
   obtain⟨r,hr⟩:∃ r,r=bAlu s.L (aluT x.op).1 s.p[0] s.p[1]:=⟨_,rfl⟩
   by_cases h52:(aluT x.op).1=52
   ·have hr':=hr
    rw[h52] at hr'
    have hV:zaE s x=⟨r.2,s.p.set 0 r.1,s.st++[s.p[1]]⟩:=by rw[zaE,if_pos hal2]; simp only[byV,hal1,if_true,g0,g1,h52,←hr',and_self]
    obtain⟨Hz,hHz⟩:∃ Hz,Hz=H.set z2 (some (.zone (s.st.length+1))):=⟨_,rfl⟩
    have nz':Hz.length=H.length:=by rw[hHz,List.length_set]
    have Bz:Bk Hz b z m s.L:=by rw[hHz]; exact h.setz hz2 hne
    obtain⟨H2,hH2⟩:∃ H2,H2=upd Hz b z m r.2:=⟨_,rfl⟩
    have n2:H2.length=H.length:=by rw[hH2,zbf,nz']
    have B4:Bk (Hz++[some (.cells (W s.p (s.st++[s.p[1]]))),some (.cells x.cs),some (.cells Z),none]) b z m s.L:=Bz.app2 fun n hn=>by simp at hn; simp[Blk.cl,kx,kZ,Wc _ _ n (show z2<n by omega)]
    have c2:=zkU (G:=G) (aluT x.op).1 s.p[0] s.p[1] B4 hi (by omega)
    rw[BF,←hr,Bz.upd_app,←hH2] at c2
    have h8:((s.st.length+1)*8≤140737488355328)=True:=eq_true (by omega)
    have fin:∀ r',zac H.length (H2++r')=H2:=fun r'=>by rw[hH2,←nz']; exact Bz.back _ r'
    have bz:(upd H b z m r.2).set z2 (some (.zone (s.st.length+1)))=H2:=by rw[hH2,hHz,ztL h hz2 hne]
    have gz:∀ r',(H++r')[z2]?=some (some (.zone s.st.length)):=fun r'=>by rw[List.getElem?_append_left hlz]; exact hz2
    have sz:∀(y:Option Blk) (r':Heap),(H++r').set z2 y=H.set z2 y++r':=fun y r'=>List.set_append_left _ _ hlz
    have e52:((aluT x.op).1==52)=true:=beqT h52
    have hpp:∀ st:List Int,True:=fun _=>trivial
    rw[hV]
    simp[IV,Wl _ _ hp,Wl _ _ (hsp _ _),Wt _ _ hp,Wt _ _ (hsp _ _),W0 _ _ hp,W1 _ _ hp,Ws _ _ hp,S0 _ _ _ hp,S1 _ _ _ hp,S1b,Ss _ _ _ hp,hxl,hxt,lZ,drop19,x0,x3,leTn,leFn,ap0,apk,set0,setk,e52,gz,sz,←hHz,h8,nz',apn0 nz',apnk nz',zbW nz',zcD nz']
    refine zai c2 ?_
    simp[IV,Wl _ _ hp,Wl _ _ (hsp _ _),Wt _ _ hp,Wt _ _ (hsp _ _),W0 _ _ hp,W1 _ _ hp,Ws _ _ hp,S0 _ _ _ hp,S1 _ _ _ hp,S1b,Ss _ _ _ hp,hxl,hxt,lZ,drop19,x0,x3,leTn,leFn,n2,apn0 n2,apnk n2,zbW n2,zcD n2,fin,Wc _ _ _ hlz,bz]
   ·have hV:zaE s x=⟨r.2,s.p.set 0 r.1,s.st⟩:=by rw[zaE,if_pos hal2]; simp only[byV,hal1,if_true,g0,g1,←hr,h52,and_false,if_false]
    have e52:((aluT x.op).1==52)=false:=beqF h52
    obtain⟨H2,hH2⟩:∃ H2,H2=upd H b z m r.2:=⟨_,rfl⟩
    have n2:H2.length=H.length:=by rw[hH2,zbf]
    have c2:=zkU (G:=G) (aluT x.op).1 s.p[0] s.p[1] (bR H s.L (W s.p s.st) rfl h (fun n hn=>Wc _ _ n hn)) hi (by omega)
    rw[BF,←hr,h.upd_app,←hH2] at c2
    have fin:∀ r',zac H.length (H2++r')=H2:=fun r'=>by rw[hH2]; exact h.back _ r'
    have bz:H2.set z2 (some (.zone s.st.length))=H2:=by rw[hH2]; exact bk' _
    rw[hV]
    simp only[←hH2]
    simp[IV,Wl _ _ hp,Wl _ _ (hsp _ _),Wt _ _ hp,Wt _ _ (hsp _ _),W0 _ _ hp,W1 _ _ hp,Ws _ _ hp,S0 _ _ _ hp,S1 _ _ _ hp,S1b,Ss _ _ _ hp,hxl,hxt,lZ,drop19,x0,x3,leTn,leFn,ap0,apk,set0,setk,e52]
    refine zai c2 ?_
    simp[IV,Wl _ _ hp,Wl _ _ (hsp _ _),Wt _ _ hp,Wt _ _ (hsp _ _),W0 _ _ hp,W1 _ _ hp,Ws _ _ hp,S0 _ _ _ hp,S1 _ _ _ hp,S1b,Ss _ _ _ hp,hxl,hxt,lZ,drop19,x0,x3,leTn,leFn,n2,apn0 n2,apnk n2,zbW n2,zcD n2,fin,Wc _ _ _ hlz,bz]
 | false =>
  have hmem:x.op=96∨x.op=97∨x.op=2∨x.op=3→x.k<16:=fun ho=>by
   simp only[zaJ,Bool.and_eq_true] at hx
   have h2:=hx.2
   rcases ho with ho|ho|ho|ho<;>simp[zbk,ho] at h2<;>exact h2
  have hbk:=h.shut.back
  have cvk:zaP .i64 (x.k:Int)=(x.k:Int):=zcY (by omega)
  have hus:=h.upd_self
  have bz0:H.set z2 (some (.zone s.st.length))=H:=zeC hz2
  have bRK:=bR H s.L (W s.p s.st) rfl h (fun n hn=>Wc _ _ n hn)
  simp[IV,Wl _ _ hp,Wl _ _ (hsp _ _),Wt _ _ hp,Wt _ _ (hsp _ _),W0 _ _ hp,W1 _ _ hp,Ws _ _ hp,S0 _ _ _ hp,S1 _ _ _ hp,S1b,Ss _ _ _ hp,hxl,hxt,lZ,drop19,x0,x3,leTn,leFn,ap0,apk,set0,setk]
  by_cases o0:x.op=0
  ·have hV:∀ q,q=putN s.L (zas (x.k::zae 34))→zaE s x=⟨q.2,s.p.set 0 q.1,s.st⟩:=fun q hq=>by rw[zaE,if_neg (by simp[hal2]),if_pos o0,←hq]
   obtain⟨q,hq⟩:∃ q,q=putN s.L (zas (x.k::zae 34)):=⟨_,rfl⟩
   have e1:Ext s.L q.2 3:=by rw[hq]; exact(zbN hi (zbV (by simp) (zcA hk) _)).1.mono (by omega)
   have l1:=e1.len
   obtain⟨H2,hH2⟩:∃ H2,H2=upd H b z m q.2:=⟨_,rfl⟩
   have n2:H2.length=H.length:=by rw[hH2,zbf]
   have c2:=zeI (G:=G) x.k bRK (by omega)
   rw[BF,←hq,h.upd_app,←hH2] at c2
   have fin:∀ r',zac H.length (H2++r')=H2:=fun r'=>by rw[hH2]; exact h.back _ r'
   have bz:H2.set z2 (some (.zone s.st.length))=H2:=by rw[hH2]; exact bk' _
   rw[hV q hq]
   simp only[←hH2]
   simp(disch:=omega)[IV,Wl _ _ hp,Wl _ _ (hsp _ _),Wt _ _ hp,Wt _ _ (hsp _ _),W0 _ _ hp,W1 _ _ hp,Ws _ _ hp,S0 _ _ _ hp,S1 _ _ _ hp,S1b,Ss _ _ _ hp,hxl,hxt,lZ,drop19,x0,x3,leTn,leFn,ap0,apk,set0,setk,o0]
   refine zai c2 ?_
   simp[IV,Wl _ _ hp,Wl _ _ (hsp _ _),Wt _ _ hp,Wt _ _ (hsp _ _),W0 _ _ hp,W1 _ _ hp,Ws _ _ hp,S0 _ _ _ hp,S1 _ _ _ hp,S1b,Ss _ _ _ hp,hxl,hxt,lZ,drop19,x0,x3,leTn,leFn,n2,apn0 n2,apnk n2,zbW n2,zcD n2,fin,Wc _ _ _ hlz,bz]
  have b0:(x.op==0)=false:=beqF o0
  by_cases o1:x.op=1
  ·have hV:∀ q,q=putN s.L (zas (x.k::zae 34))→zaE s x=⟨q.2,s.p.set 1 q.1,s.st⟩:=fun q hq=>by rw[zaE,if_neg (by simp[hal2]),if_neg o0,if_pos o1,←hq]
   obtain⟨q,hq⟩:∃ q,q=putN s.L (zas (x.k::zae 34)):=⟨_,rfl⟩
   have e1:Ext s.L q.2 3:=by rw[hq]; exact(zbN hi (zbV (by simp) (zcA hk) _)).1.mono (by omega)
   have l1:=e1.len
   obtain⟨H2,hH2⟩:∃ H2,H2=upd H b z m q.2:=⟨_,rfl⟩
   have n2:H2.length=H.length:=by rw[hH2,zbf]
   have c2:=zeI (G:=G) x.k bRK (by omega)
   rw[BF,←hq,h.upd_app,←hH2] at c2
   have fin:∀ r',zac H.length (H2++r')=H2:=fun r'=>by rw[hH2]; exact h.back _ r'
   have bz:H2.set z2 (some (.zone s.st.length))=H2:=by rw[hH2]; exact bk' _
   rw[hV q hq]
   simp only[←hH2]
   simp(disch:=omega)[IV,Wl _ _ hp,Wl _ _ (hsp _ _),Wt _ _ hp,Wt _ _ (hsp _ _),W0 _ _ hp,W1 _ _ hp,Ws _ _ hp,S0 _ _ _ hp,S1 _ _ _ hp,S1b,Ss _ _ _ hp,hxl,hxt,lZ,drop19,x0,x3,leTn,leFn,ap0,apk,set0,setk,o1]
   refine zai c2 ?_
   simp[IV,Wl _ _ hp,Wl _ _ (hsp _ _),Wt _ _ hp,Wt _ _ (hsp _ _),W0 _ _ hp,W1 _ _ hp,Ws _ _ hp,S0 _ _ _ hp,S1 _ _ _ hp,S1b,Ss _ _ _ hp,hxl,hxt,lZ,drop19,x0,x3,leTn,leFn,n2,apn0 n2,apnk n2,zbW n2,zcD n2,fin,Wc _ _ _ hlz,bz]
  have b1:(x.op==1)=false:=beqF o1
  by_cases o32:x.op=32
  ·have hV:∀ q,q=varN s.L (18+(x.k/4:Nat))→zaE s x=⟨q.2,s.p.set 0 q.1,s.st⟩:=fun q hq=>by rw[zaE,if_neg (by simp[hal2]),if_neg o0,if_neg o1,if_pos o32,←hq]
   have qd:quoI .i64 (x.k:Int) 4=((x.k/4:Nat):Int):=zA8 (b:=4) (by omega)
   have ad:addI .i64 18 ((x.k/4:Nat):Int)=18+((x.k/4:Nat):Int):=zav (by omega) (by omega)
   obtain⟨q,hq⟩:∃ q,q=varN s.L (18+(x.k/4:Nat)):=⟨_,rfl⟩
   have e1:Ext s.L q.2 3:=by rw[hq]; exact(ziF hi).mono (by omega)
   have l1:=e1.len
   obtain⟨H2,hH2⟩:∃ H2,H2=upd H b z m q.2:=⟨_,rfl⟩
   have n2:H2.length=H.length:=by rw[hH2,zbf]
   have c2:=zp5 (G:=G) (18+((x.k/4:Nat):Int)) bRK (by omega)
   rw[BF,←hq,h.upd_app,←hH2] at c2
   have fin:∀ r',zac H.length (H2++r')=H2:=fun r'=>by rw[hH2]; exact h.back _ r'
   have bz:H2.set z2 (some (.zone s.st.length))=H2:=by rw[hH2]; exact bk' _
   rw[hV q hq]
   simp only[←hH2]
   simp(disch:=omega)[IV,Wl _ _ hp,Wl _ _ (hsp _ _),Wt _ _ hp,Wt _ _ (hsp _ _),W0 _ _ hp,W1 _ _ hp,Ws _ _ hp,S0 _ _ _ hp,S1 _ _ _ hp,S1b,Ss _ _ _ hp,hxl,hxt,lZ,drop19,x0,x3,leTn,leFn,ap0,apk,set0,setk,o32,cvk,qd,ad,-Int.natCast_ediv]
   refine zai c2 ?_
   simp[IV,Wl _ _ hp,Wl _ _ (hsp _ _),Wt _ _ hp,Wt _ _ (hsp _ _),W0 _ _ hp,W1 _ _ hp,Ws _ _ hp,S0 _ _ _ hp,S1 _ _ _ hp,S1b,Ss _ _ _ hp,hxl,hxt,lZ,drop19,x0,x3,leTn,leFn,n2,apn0 n2,apnk n2,zbW n2,zcD n2,fin,Wc _ _ _ hlz,bz]
  have b32:(x.op==32)=false:=beqF o32
  have flat:∀(p':List Int),p'.length=18→zaE s x=⟨s.L,p',s.st⟩→V.agg (W p' s.st)=V.agg (vcs (zaE s x).p (zaE s x).st (.own z2))∧(upd H b z m (zaE s x).L).set z2 (some (.zone (zaE s x).st.length))=H:=fun p' hp' e=>by
   rw[e]
   refine⟨by rw[hW],?_⟩
   show(upd H b z m s.L).set z2 (some (.zone s.st.length))=H
   rw[hus,bz0]
  by_cases o96:x.op=96
  ·have hk16:=hmem (by omega)
   have ad:addI .i64 2 (x.k:Int)=((2+x.k:Nat):Int):=by rw[zav (by omega) (by omega)]; omega
   have gk:s.p.getD (2+x.k) 0=s.p[2+x.k]'(by omega):=by rw[List.getD_eq_getElem?_getD,zal (by omega)]; rfl
   have hV:zaE s x=⟨s.L,s.p.set 0 (s.p[2+x.k]'(by have:=hmem (by omega); omega)),s.st⟩:=by rw[zaE,if_neg (by simp[hal2]),if_neg o0,if_neg o1,if_neg o32,if_pos o96,gk]
   have hw1:=Wg s.p s.st x.k hp hk16
   have hw2:=fun v=>Wk s.p s.st x.k v hp hk16
   rw[hV]
   simp(disch:=omega)[IV,Wl _ _ hp,Wl _ _ (hsp _ _),Wt _ _ hp,Wt _ _ (hsp _ _),W0 _ _ hp,W1 _ _ hp,Ws _ _ hp,S0 _ _ _ hp,S1 _ _ _ hp,S1b,Ss _ _ _ hp,hxl,hxt,lZ,drop19,x0,x3,leTn,leFn,ap0,apk,set0,setk,o96,cvk,ad,ltT,ltF,leF,leT,hw1,hw2,-Int.natCast_add,hus,bz0,hbk,Wc _ _ _ hlz]
  have b96:(x.op==96)=false:=beqF o96
  by_cases o97:x.op=97
  ·have hk16:=hmem (by omega)
   have ad:addI .i64 2 (x.k:Int)=((2+x.k:Nat):Int):=by rw[zav (by omega) (by omega)]; omega
   have gk:s.p.getD (2+x.k) 0=s.p[2+x.k]'(by omega):=by rw[List.getD_eq_getElem?_getD,zal (by omega)]; rfl
   have hV:zaE s x=⟨s.L,s.p.set 1 (s.p[2+x.k]'(by have:=hmem (by omega); omega)),s.st⟩:=by rw[zaE,if_neg (by simp[hal2]),if_neg o0,if_neg o1,if_neg o32,if_neg o96,if_pos o97,gk]
   have hw1:=Wg s.p s.st x.k hp hk16
   have hw2:=fun v=>Wk s.p s.st x.k v hp hk16
   rw[hV]
   simp(disch:=omega)[IV,Wl _ _ hp,Wl _ _ (hsp _ _),Wt _ _ hp,Wt _ _ (hsp _ _),W0 _ _ hp,W1 _ _ hp,Ws _ _ hp,S0 _ _ _ hp,S1 _ _ _ hp,S1b,Ss _ _ _ hp,hxl,hxt,lZ,drop19,x0,x3,leTn,leFn,ap0,apk,set0,setk,o97,cvk,ad,ltT,ltF,leF,leT,hw1,hw2,-Int.natCast_add,hus,bz0,hbk,Wc _ _ _ hlz]
  have b97:(x.op==97)=false:=beqF o97
  by_cases o2:x.op=2
  ·have hk16:=hmem (by omega)
   have ad:addI .i64 2 (x.k:Int)=((2+x.k:Nat):Int):=by rw[zav (by omega) (by omega)]; omega
   have gk:s.p.getD (2+x.k) 0=s.p[2+x.k]'(by omega):=by rw[List.getD_eq_getElem?_getD,zal (by omega)]; rfl
   have hV:zaE s x=⟨s.L,s.p.set (2+x.k) s.p[0],s.st⟩:=by rw[zaE,if_neg (by simp[hal2]),if_neg o0,if_neg o1,if_neg o32,if_neg o96,if_neg o97,if_pos o2,g0]
   have hw1:=Wg s.p s.st x.k hp hk16
   have hw2:=fun v=>Wk s.p s.st x.k v hp hk16
   rw[hV]
   simp(disch:=omega)[IV,Wl _ _ hp,Wl _ _ (hsp _ _),Wt _ _ hp,Wt _ _ (hsp _ _),W0 _ _ hp,W1 _ _ hp,Ws _ _ hp,S0 _ _ _ hp,S1 _ _ _ hp,S1b,Ss _ _ _ hp,hxl,hxt,lZ,drop19,x0,x3,leTn,leFn,ap0,apk,set0,setk,o2,cvk,ad,ltT,ltF,leF,leT,hw1,hw2,-Int.natCast_add,hus,bz0,hbk,Wc _ _ _ hlz]
  have b2:(x.op==2)=false:=beqF o2
  by_cases o3:x.op=3
  ·have hk16:=hmem (by omega)
   have ad:addI .i64 2 (x.k:Int)=((2+x.k:Nat):Int):=by rw[zav (by omega) (by omega)]; omega
   have gk:s.p.getD (2+x.k) 0=s.p[2+x.k]'(by omega):=by rw[List.getD_eq_getElem?_getD,zal (by omega)]; rfl
   have hV:zaE s x=⟨s.L,s.p.set (2+x.k) s.p[1],s.st⟩:=by rw[zaE,if_neg (by simp[hal2]),if_neg o0,if_neg o1,if_neg o32,if_neg o96,if_neg o97,if_neg o2,if_pos o3,g1]
   have hw1:=Wg s.p s.st x.k hp hk16
   have hw2:=fun v=>Wk s.p s.st x.k v hp hk16
   rw[hV]
   simp(disch:=omega)[IV,Wl _ _ hp,Wl _ _ (hsp _ _),Wt _ _ hp,Wt _ _ (hsp _ _),W0 _ _ hp,W1 _ _ hp,Ws _ _ hp,S0 _ _ _ hp,S1 _ _ _ hp,S1b,Ss _ _ _ hp,hxl,hxt,lZ,drop19,x0,x3,leTn,leFn,ap0,apk,set0,setk,o3,cvk,ad,ltT,ltF,leF,leT,hw1,hw2,-Int.natCast_add,hus,bz0,hbk,Wc _ _ _ hlz]
  have b3:(x.op==3)=false:=beqF o3
  by_cases o132:x.op=132
  ·have hV:∀ q,q=bNeg s.L s.p[0]→zaE s x=⟨q.2,s.p.set 0 q.1,s.st⟩:=fun q hq=>by rw[zaE,if_neg (by simp[hal2]),if_neg o0,if_neg o1,if_neg o32,if_neg o96,if_neg o97,if_neg o2,if_neg o3,if_pos o132,g0,←hq]
   obtain⟨q,hq⟩:∃ q,q=bNeg s.L s.p[0]:=⟨_,rfl⟩
   have e1:Ext s.L q.2 3:=by rw[hq]; exact zmY hi
   have l1:=e1.len
   obtain⟨H2,hH2⟩:∃ H2,H2=upd H b z m q.2:=⟨_,rfl⟩
   have n2:H2.length=H.length:=by rw[hH2,zbf]
   have c2:=zwJ (G:=G) s.p[0] bRK hi (by omega)
   rw[BF,←hq,h.upd_app,←hH2] at c2
   have fin:∀ r',zac H.length (H2++r')=H2:=fun r'=>by rw[hH2]; exact h.back _ r'
   have bz:H2.set z2 (some (.zone s.st.length))=H2:=by rw[hH2]; exact bk' _
   rw[hV q hq]
   simp only[←hH2]
   simp(disch:=omega)[IV,Wl _ _ hp,Wl _ _ (hsp _ _),Wt _ _ hp,Wt _ _ (hsp _ _),W0 _ _ hp,W1 _ _ hp,Ws _ _ hp,S0 _ _ _ hp,S1 _ _ _ hp,S1b,Ss _ _ _ hp,hxl,hxt,lZ,drop19,x0,x3,leTn,leFn,ap0,apk,set0,setk,o132]
   refine zai c2 ?_
   simp[IV,Wl _ _ hp,Wl _ _ (hsp _ _),Wt _ _ hp,Wt _ _ (hsp _ _),W0 _ _ hp,W1 _ _ hp,Ws _ _ hp,S0 _ _ _ hp,S1 _ _ _ hp,S1b,Ss _ _ _ hp,hxl,hxt,lZ,drop19,x0,x3,leTn,leFn,n2,apn0 n2,apnk n2,zbW n2,zcD n2,fin,Wc _ _ _ hlz,bz]
  have b132:(x.op==132)=false:=beqF o132
  by_cases o7:x.op=7
  ·have hV:zaE s x=⟨s.L,(s.p.set 1 s.p[0]).set 0 s.p[0],s.st⟩:=by rw[zaE,if_neg (by simp[hal2]),if_neg o0,if_neg o1,if_neg o32,if_neg o96,if_neg o97,if_neg o2,if_neg o3,if_neg o132,if_pos o7,g0]
   have hp1:(s.p.set 1 s.p[0]).length=18:=hsp _ _
   have w1:=W1 (s.p.set 1 s.p[0]) s.st hp1
   have w0:=S0 (s.p.set 1 s.p[0]) s.st s.p[0] hp1
   have hp2:((s.p.set 1 s.p[0]).set 0 s.p[0]).length=18:=by rw[List.length_set]; exact hp1
   have w2:=Wl ((s.p.set 1 s.p[0]).set 0 s.p[0]) s.st hp2
   have w3:=Wt ((s.p.set 1 s.p[0]).set 0 s.p[0]) s.st hp2
   simp at w1
   rw[hV]
   simp(disch:=omega)[IV,Wl _ _ hp,Wl _ _ (hsp _ _),Wt _ _ hp,Wt _ _ (hsp _ _),W0 _ _ hp,W1 _ _ hp,Ws _ _ hp,S0 _ _ _ hp,S1 _ _ _ hp,S1b,Ss _ _ _ hp,hxl,hxt,lZ,drop19,x0,x3,leTn,leFn,ap0,apk,set0,setk,o7,hus,bz0,hbk,Wc _ _ _ hlz,w0,w1,w2,w3]
  have b7:(x.op==7)=false:=beqF o7
  by_cases o135:x.op=135
  ·have hV:zaE s x=⟨s.L,s.p.set 0 s.p[1],s.st⟩:=by rw[zaE,if_neg (by simp[hal2]),if_neg o0,if_neg o1,if_neg o32,if_neg o96,if_neg o97,if_neg o2,if_neg o3,if_neg o132,if_neg o7,if_pos o135,g1]
   rw[hV]
   simp(disch:=omega)[IV,Wl _ _ hp,Wl _ _ (hsp _ _),Wt _ _ hp,Wt _ _ (hsp _ _),W0 _ _ hp,W1 _ _ hp,Ws _ _ hp,S0 _ _ _ hp,S1 _ _ _ hp,S1b,Ss _ _ _ hp,hxl,hxt,lZ,drop19,x0,x3,leTn,leFn,ap0,apk,set0,setk,o135,hus,bz0,hbk,Wc _ _ _ hlz]
  have b135:(x.op==135)=false:=beqF o135
  have hV:zaE s x=s:=by rw[zaE,if_neg (by simp[hal2]),if_neg o0,if_neg o1,if_neg o32,if_neg o96,if_neg o97,if_neg o2,if_neg o3,if_neg o132,if_neg o7,if_neg o135]
  rw[hV]
  simp(disch:=omega)[IV,Wl _ _ hp,Wl _ _ (hsp _ _),Wt _ _ hp,Wt _ _ (hsp _ _),W0 _ _ hp,W1 _ _ hp,Ws _ _ hp,S0 _ _ _ hp,S1 _ _ _ hp,S1b,Ss _ _ _ hp,hxl,hxt,lZ,drop19,x0,x3,leTn,leFn,ap0,apk,set0,setk,b0,b1,b32,b96,b97,b2,b3,b132,b7,b135,cvk,hus,bz0,hbk,Wc _ _ _ hlz]
end Go.Ev
/- The values of a window. -/
namespace Go.Ev
open Go Go.RowKit
variable {G:Tbl}
variable {H:Heap} {b z m:Nat} {L:List Nd}
noncomputable def varV(s:VS)(i:Nat):VS:=⟨(varN s.L i).2,s.p.set i (varN s.L i).1,s.st⟩
noncomputable def za3(L:List Nd)(n:Nat):VS:=(List.range n).foldl varV ⟨L,List.replicate 18 0,[]⟩
theorem zlN(L:List Nd)(n:Nat):za3 L (n+1)=varV (za3 L n) n:=by simp[za3,List.range_succ]
noncomputable def winV(L:List Nd)(w:List In4):VS:=w.foldl zaE (za3 L 18)
theorem zrZ(L:List Nd)(w:List In4)(x:In4):winV L (w++[x])=zaE (winV L w) x:=by simp[winV]
structure VOk (L:List Nd) (s:VS) (k n:Nat):Prop where
 ext:Ext L s.L k
 len:s.p.length=18
 st:s.st.length≤n
theorem ztN{s:VS}{k n:Nat}(h:VOk L s k n){x:In4}(hk:x.k<4294967296):VOk L (zaE s x) (k+3) (n+1):=by
 have hi:=h.ext.inv
 have flat:∀ p:List Int,p.length=18→VOk L ⟨s.L,p,s.st⟩ (k+3) (n+1):=fun p hp=>⟨h.ext.mono (by omega),hp,by have:=h.st; show s.st.length≤_; omega⟩
 have put:∀(q:Int×List Nd) (p:List Int) (st:List Int),Ext s.L q.2 3→p.length=18→st.length≤n+1→VOk L ⟨q.2,p,st⟩ (k+3) (n+1):=fun q p st e hp hs=>⟨h.ext.trans e,hp,hs⟩
 have hst:=h.st
 have ec:Ext s.L (putN s.L (zas (x.k::zae 34))).2 1:=(zbN hi (zbV (by simp) (zcA hk) _)).1
 rw[zaE]
 split
 ·have eb:Ext s.L (byV s x).2 1:=by
   rw[byV]
   split
   ·exact .refl hi 1
   ·exact ec
  refine put (bAlu (byV s x).2 (aluT x.op).1 (s.p.getD 0 0) (byV s x).1) _ _ (eb.trans (zmX eb.inv)) (by rw[List.length_set]; exact h.len) ?_
  split
  ·simp; omega
  ·omega
 ·split
  ·exact put _ _ _ (ec.mono (by omega)) (by rw[List.length_set]; exact h.len) (by omega)
  ·split
   ·exact put _ _ _ (ec.mono (by omega)) (by rw[List.length_set]; exact h.len) (by omega)
   ·split
    ·exact put _ _ _ ((ziF hi).mono (by omega)) (by rw[List.length_set]; exact h.len) (by omega)
    ·split
     ·exact flat _ (by rw[List.length_set]; exact h.len)
     ·split
      ·exact flat _ (by rw[List.length_set]; exact h.len)
      ·split
       ·exact flat _ (by rw[List.length_set]; exact h.len)
       ·split
        ·exact flat _ (by rw[List.length_set]; exact h.len)
        ·split
         ·exact put _ _ _ (zmY hi) (by rw[List.length_set]; exact h.len) (by omega)
         ·split
          ·exact flat _ (by rw[List.length_set,List.length_set]; exact h.len)
          ·split
           ·exact flat _ (by rw[List.length_set]; exact h.len)
           ·exact flat _ h.len
theorem zld(h:Inv L):∀ n,VOk L (za3 L n) n 0
 | 0=>⟨.refl h 0,by simp[za3],by simp[za3]⟩
 | n+1=>by
  have ih:=zld h n
  rw[zlN]
  exact⟨ih.ext.trans (ziF ih.ext.inv),by show(List.set _ _ _).length=18; rw[List.length_set]; exact ih.len,ih.st⟩
theorem zeL(h:Inv L):∀(w:List In4),(∀ x∈w,x.k<4294967296)→VOk L (winV L w) (18+3*w.length) w.length:=fun w=>by
 have:∀(w:List In4) (s:VS) (k n:Nat),VOk L s k n→(∀ x∈w,x.k<4294967296)→VOk L (w.foldl zaE s) (k+3*w.length) (n+w.length):=fun w=>by
  induction w with
  | nil=>intro s k n h _; exact h
  | cons x w ih =>
   intro s k n h hw
   have:=ih (zaE s x) (k+3) (n+1) (ztN h (hw x (by simp))) fun y hy=>hw y (by simp[hy])
   have e1:k+3+3*w.length=k+3*(x::w).length:=by simp; omega
   have e2:n+1+w.length=n+(x::w).length:=by simp; omega
   rw[e1,e2] at this
   exact this
 intro hw
 have:=this w (za3 L 18) 18 0 (zld h 18) hw
 rwa[Nat.zero_add] at this
theorem zx1[HasIns G][HasCheck G][HasWRight G][HasWinOf G](w:List In4)(h:Bk H b z m L)(hf:w.length≤maxLen)(hk:∀ x∈w,x.k<4294967296)(hw:winB w=false) :
  SF G 296 [.ptr b 0,FL w] H (.tup [.agg (vcs (List.replicate 18 0) [] .full),.bool false]) H:=by
 refine zbz HasWinOf.h_window_Of (Nat.le_of_ble_eq_true rfl) ?_
 have hbk:=h.shut.back
 have hr:=zb1 (G:=G) w hf hk
 simp[FL] at hr ⊢
 refine zab hr ?_
 simp[hw,ap0,apk,set0,setk,hbk,vcs,za7]
theorem zx2[HasWd G][HasNeg G][HasIns G][HasCheck G][HasWRight G][HasAffine G][HasBits G][HasSym G][HasWinOf G](w:List In4)(h:Bk H b z m L)(hi:Inv L)(hs:L.length≤800000)(hf:w.length≤maxLen)(hk:∀ x∈w,x.k<4294967296)(hw:winB w=true) :
  SF G 296 [.ptr b 0,FL w] H (.tup [.agg (vcs (winV L w).p (winV L w).st .no),.bool true]) (upd H b z m (winV L w).L):=by
 refine zbz HasWinOf.h_window_Of (Nat.le_of_ble_eq_true rfl) ?_
 have hlz:=h.lz
 have hlb:=h.lb
 have hus:=h.upd_self
 have hr:=zb1 (G:=G) w hf hk
 have hw32:w.length≤32:=by simp only[winB,Bool.and_eq_true,decide_eq_true_eq] at hw; exact hw.1
 have hwp:∀ x∈w,zaJ x=true:=by simp only[winB,Bool.and_eq_true,List.all_eq_true] at hw; exact hw.2
 obtain⟨Z,hZ⟩:∃ Z:List V,Z=vcs (List.replicate 18 0) [] .full:=⟨_,rfl⟩
 have lZ:Z.length=19:=by rw[hZ]; rfl
 have drop19:Z.drop 19=[]:=List.drop_eq_nil_of_le (by omega)
 have kZ:∀ n,clL n Z=Z:=fun n=>by rw[hZ]; simp[vcs,za7,clL,V.cl]
 have z18:Z[18]?=some (.vs [] .full):=by rw[hZ]; rfl
 have z18':=(List.getElem?_eq_some_iff.1 z18).2
 have hZz:[V.int .i64 0,.int .i64 0,.int .i64 0,.int .i64 0,.int .i64 0,.int .i64 0,.int .i64 0,.int .i64 0,.int .i64 0,.int .i64 0,.int .i64 0,.int .i64 0,.int .i64 0,.int .i64 0,.int .i64 0,.int .i64 0,.int .i64 0,.int .i64 0,.vs [] .full]=Z:=by rw[hZ]; rfl
 obtain⟨z2,hz2⟩:∃ z2,z2=H.length+2:=⟨_,rfl⟩
 obtain⟨W,hW⟩:∃ W:List Int→List Int→List V,∀ p st,W p st=vcs p st (.own z2):=⟨_,fun _ _=>rfl⟩
 have Wl:∀ p st,p.length=18→(W p st).length=19:=fun p st hp=>by rw[hW]; exact zeK hp
 have Wt:∀ p st,p.length=18→(W p st).take 19=W p st:=fun p st hp=>by rw[hW]; exact zop hp
 have Wc:∀ p st n,z2<n→clL n (W p st)=W p st:=fun p st n hn=>by rw[hW]; exact zrX n z2 hn
 have Wd:∀ p st,p.length=18→(W p st).drop 19=[]:=fun p st hp=>List.drop_eq_nil_of_le (by rw[Wl _ _ hp]; omega)
 have Wn:∀ p st,clL H.length (W p st)=vcs p st .no:=fun p st=>by
  rw[hW,zan,vcs,vcs,hz2]
  simp[za7,Function.comp_def,V.cl,Tk.cl]
 have zset:Z.set 18 (.vs [] (.own z2))=W (List.replicate 18 0) []:=by rw[hZ,hW]; rfl
 -- the blocks
 obtain⟨BB,hBB⟩:∃ BB:VS→Heap,∀ s,BB s=upd H b z m s.L++[some (.cells Z),some (.cells (W s.p s.st)),some (.zone s.st.length)]:=⟨_,fun _=>rfl⟩
 have bl:∀ s,(BB s).length=H.length+3:=fun s=>by rw[hBB]; simp[zbf]
 have bK:∀(s:VS) (r:Heap),Inv s.L→s.L.length≤1000000→(∀ n,r.map (Option.map (Blk.cl n))=r)→Bk (upd H b z m s.L++some (.cells Z)::some (.cells (W s.p s.st))::some (.zone s.st.length)::r) b z m s.L:=fun s r hi' hs' hr =>
  (h.to hi' hs').app2 fun n hn=>by
   simp[zbf] at hn
   simp only[List.map_cons,Option.map_some,Blk.cl,kZ,Wc s.p s.st n (by omega),hr n]
 have tr:∀(s:VS) (r:Heap),Inv s.L→s.L.length≤1000000→zac (H.length+3) (upd H b z m s.L++some (.cells Z)::some (.cells (W s.p s.st))::some (.zone s.st.length)::r)=BB s:=fun s r hi' hs'=>by
  have:=(bK s [] hi' hs' fun n=>rfl).shut.back r
  simp[zbf] at this
  rw[hBB]; exact this
 have nU:∀ L',(upd H b z m L').length=H.length:=fun L'=>zbf _ _ _ _ _
 have g0:∀(L':List Nd) (r:Heap),(upd H b z m L'++r)[H.length]?=r[0]?:=fun L' r=>apn0 (nU L')
 have gk:∀(L':List Nd) (r:Heap) (k:Nat),(upd H b z m L'++r)[H.length+k]?=r[k]?:=fun L' r k=>apnk (nU L') k
 have sk:∀(L':List Nd) (r:Heap) (k:Nat) (x:Option Blk),(upd H b z m L'++r).set (H.length+k) x=upd H b z m L'++r.set k x:=fun L' r k x=>zcD (nU L') k x
 have s0:∀(L':List Nd) (r:Heap) (x:Option Blk),(upd H b z m L'++r).set H.length x=upd H b z m L'++r.set 0 x:=fun L' r x=>zbW (nU L') x
 have fin:∀ L' r,zac H.length (upd H b z m L'++r)=upd H b z m L':=fun L' r=>h.back L' r
 have hb3:(b<H.length+3)=True:=eq_true (by omega)
 simp[FL] at hr ⊢
 refine zab hr ?_
 simp[hw,hZz,lZ,ap0,apk,set0,setk,z18,z18',←hz2,zset]
 have V1:=zld hi
 refine W_up 18 (fun i=>[(0,.ptr b 0),(1,.vs (IL w) .no),(4,.ptr H.length 0),(6,.ptr (H.length+1) 0),(18,.int .i64 i)]) (fun i=>BB (za3 L i)) (fun _=>True) ?_ ?_
 ·have:=tr (za3 L 0) [] hi (by show L.length≤_; omega)
  simp[za3,hus] at this
  simp[zaa,za3,hb3,this]
 ·intro i hi1 _
  have hV:=V1 i
  have hLi:=hV.ext.len
  by_cases hlt:i<18
  ·have hB:=bK (za3 L i) [] hV.ext.inv (by omega) fun n=>rfl
   obtain⟨q,hq⟩:∃ q,q=varN (za3 L i).L i:=⟨_,rfl⟩
   have hs1:za3 L (i+1)=⟨q.2,(za3 L i).p.set i q.1,(za3 L i).st⟩:=by rw[zlN,varV,←hq]
   have c1:=zp5 (G:=G) (i:Int) hB (by omega)
   rw[BF,←hq,(h.to hV.ext.inv (by omega)).upd_app,h.upd_upd] at c1
   have e1:Ext (za3 L i).L q.2 1:=by rw[hq]; exact ziF hV.ext.inv
   have l1:=e1.len
   have t1:=tr ⟨q.2,(za3 L i).p.set i q.1,(za3 L i).st⟩ [] e1.inv (by show q.2.length≤_; omega)
   simp only at t1
   have wl:=Wl (za3 L i).p (za3 L i).st hV.len
   have ws:=zkq (i:=i) (p:=(za3 L i).p) (st:=(za3 L i).st) (tk:=.own z2) q.1 hV.len hlt
   rw[←hW,←hW] at ws
   have hi18:((i:Int)<18)=True:=eq_true (by omega)
   have tb:=tr (za3 L i) [] hV.ext.inv (by omega)
   rw[hBB]
   simp(disch:=omega)[ltT,hlt,hi18]
   refine zai c1 ?_
   simp(disch:=omega)[g0,gk,s0,sk,nU,hlt,hi18,leTn,leFn,wl,ws,zaa,hb3,t1,hs1,zag,-Int.natCast_add]
  ·obtain rfl:i=18:=by omega
   have wt:=Wt (za3 L 18).p (za3 L 18).st hV.len
   have w18:(W (za3 L 18).p (za3 L 18).st)[18]?=some (.vs (ints .i64 (za3 L 18).st) (.own z2)):=by
    rw[hW,vcs,List.getElem?_append_right (by simp[hV.len])]
    simp[hV.len]
   have w18':=(List.getElem?_eq_some_iff.1 w18).2
   rw[hBB]
   simp[g0,gk,s0,sk,nU,w18,w18',Wl _ _ hV.len]
   obtain⟨T,hT⟩:∃ T:Nat→VS,∀ j,T j=winV L (w.take j):=⟨_,fun _=>rfl⟩
   have T0:T 0=za3 L 18:=by rw[hT,List.take_zero,winV,List.foldl_nil]
   have TN:T w.length=winV L w:=by rw[hT,List.take_length]
   have Tok:∀ j,VOk L (T j) (18+3*32) 32:=fun j=>by
    rw[hT]
    have:=zeL hi (w.take j) fun x hx=>hk x (List.mem_of_mem_take hx)
    exact⟨this.ext.mono (by simp; omega),this.len,Nat.le_trans this.st (by simp; omega)⟩
   have Ts:∀(j:Nat) (x:In4),w[j]?=some x→T (j+1)=zaE (T j) x:=fun j x hx=>by rw[hT,hT,List.take_add_one,hx]; exact zrZ _ _ _
   refine W_up w.length (fun j=>[(0,.ptr b 0),(4,.ptr H.length 0),(6,.ptr (H.length+1) 0),(28,.vs (IL w) .no),(29,.int .i64 w.length),(30,.int .i64 j)]) (fun j=>BB (T j)) (fun _=>True) ?_ ?_
   ·have:=tr (za3 L 18) [] hV.ext.inv (by omega)
    simp[zaa,nU,hb3,this,T0]
   intro j hj _
   have ok:=Tok j
   have lT:=ok.ext.len
   have sT:=ok.st
   by_cases hjt:j<w.length
   ·obtain⟨x,hx⟩:∃ x,w[j]?=some x:=⟨_,zal hjt⟩
    have hxm:=List.mem_of_getElem? hx
    have hxc:x.cs.length=4:=rfl
    have hxt:x.cs.take 4=x.cs:=rfl
    have gx:(IL w)[j]?=some x.cs:=by simp[hx]
    have gx':=(List.getElem?_eq_some_iff.1 gx).2
    have hjl:((j:Int)<(w.length:Int))=True:=eq_true (by omega)
    have hB:=bK (T j) [some (.cells x.cs)] ok.ext.inv (by omega) fun n=>by simp[Blk.cl,In4.cs,clL,V.cl]
    have hzz:(upd H b z m (T j).L++[some (.cells Z),some (.cells (W (T j).p (T j).st)),some (.zone (T j).st.length),some (.cells x.cs)])[z2]?=some (some (.zone (T j).st.length)):=by rw[hz2,gk]; rfl
    have c1:=zrY (G:=G) (T j) x z2 hB hzz (by omega) ok.ext.inv (by omega) ok.len (by omega) (hk x hxm) (hwp x hxm)
    obtain⟨s',hs'⟩:∃ s',s'=zaE (T j) x:=⟨_,rfl⟩
    rw[←hs',←hW,←hW,(h.to ok.ext.inv (by omega)).upd_app,h.upd_upd,hz2,sk] at c1
    have hTs:T (j+1)=s':=by rw[hs']; exact Ts j x hx
    have ok':=Tok (j+1)
    rw[hTs] at ok'
    have lT':=ok'.ext.len
    have t1:=tr s' [some (.cells x.cs)] ok'.ext.inv (by omega)
    rw[hBB]
    simp(disch:=omega)[ltT,hjl,hjt,gx,gx',hxc,hxt,g0,gk,s0,sk,nU,leTn,leFn,Wl _ _ ok.len,Wt _ _ ok.len]
    refine zai c1 ?_
    simp(disch:=omega)[g0,gk,s0,sk,nU,leTn,leFn,Wl _ _ ok.len,Wt _ _ ok.len,Wl _ _ ok'.len,Wt _ _ ok'.len,Wd _ _ ok.len,zaa,hb3,t1,hTs,zag,hjt,-Int.natCast_add]
   ·obtain rfl:j=w.length:=by omega
    rw[hBB]
    have ok':=ok
    rw[TN] at ok'
    simp(disch:=omega)[TN,g0,gk,s0,sk,nU,leTn,leFn,Wl _ _ ok'.len,Wt _ _ ok'.len,lZ,drop19,fin,Wn,Wd _ _ ok'.len]
end Go.Ev
/- What instructions need and set: live, and hurdleref07. -/
namespace Go.Ev
open Go Go.RowKit
variable {G:Tbl}
def zf6(k:Nat):Nat:=if k<16 then 2^(k+2) else 0
theorem zoq[HasTells G](k:Nat):FP G 166 [.int .u32 (k:Int)] (.int .u32 (zf6 k:Nat)):=by
 refine zak HasTells.h_live_cell (Nat.le_of_ble_eq_true rfl) ?_
 simp
 by_cases h:16≤k
 ·simp[show(16:Int)≤(k:Int) from by omega,zf6,show¬k<16 from by omega]
 ·have h2:k<16:=by omega
  have h3:shlI .u32 4 (k:Int)=((4*2^k%4294967296:Nat):Int):=zn9 (a:=4) (by omega)
  have h4:4*2^k%4294967296=2^(k+2):=by
   rw[Nat.mod_eq_of_lt]
   ·rw[Nat.pow_add,Nat.mul_comm]
   ·have:2^k≤2^15:=Nat.pow_le_pow_right (by decide) (by omega)
    omega
  simp(disch:=omega)[leF,ltF,h3,h4,zf6,h2,-Int.natCast_pow]
def byXB(op:Int):Bool:=(aluT op).2.1||decide (op∈[29,45,61,77])
theorem zp8{op:Int}(h:(aluT op).2.2=true):op∈[4,20,36,52,68,84,100,116,164,12,28,44,60,76,92,108,124,172]:=by
 unfold aluT at h
 split at h
 ·rename_i hm; simp only[List.mem_cons,List.not_mem_nil,or_false] at hm ⊢; omega
 ·split at h
  ·rename_i hm; simp only[List.mem_cons,List.not_mem_nil,or_false] at hm ⊢; omega
  ·cases h
theorem zwX[HasIns G][HasTells G](x:In4):FP G 167 [IV x] (.bool (byXB x.op)):=by
 refine zak HasTells.h_live_byX (Nat.le_of_ble_eq_true rfl) ?_
 have ha:=ziH (G:=G) x
 simp[IV,In4.cs] at ha ⊢
 refine zab ha ?_
 unfold byXB
 cases h:(aluT x.op).2.2
 ·have h0:(aluT x.op).2.1=false:=by
   unfold aluT at h ⊢
   split at h
   ·cases h
   ·split at h
    ·cases h
    ·rename_i h1 h2; rw[if_neg h1,if_neg h2]
  simp[h,h0]
  by_cases h1:x.op=29
  ·simp[h1]
  by_cases h2:x.op=45
  ·simp[h2]
  by_cases h3:x.op=61
  ·simp[h3]
  by_cases h4:x.op=77
  ·simp[h4]
  simp[h1,h2,h3,h4,beqF]
 ·have h1:=zp8 h
  have h2:∀ p∈[4,20,36,52,68,84,100,116,164,12,28,44,60,76,92,108,124,172],decide (p∈[29,45,61,(77:Int)])=false:=by decide
  simp[h]
  have:=h2 _ h1
  simp at this
  simp[this]
def zbw(x:In4)(part:Nat):Bool :=
 if part=0 then(aluT x.op).2.2||isBr x.op||decide (x.op∈[2,7,132,22])
 else if part=1 then byXB x.op||decide (x.op∈[3,135])
 else decide ((x.op=96∨x.op=97)∧x.k+2=part)
def zca(x:In4)(part:Nat):Bool :=
 if part=0 then(aluT x.op).2.2||decide (x.op∈[0,32,96,135,132])
 else if part=1 then decide (x.op∈[1,97,7])
 else decide ((x.op=2∨x.op=3)∧x.k+2=part)
def zhD(x:In4):Nat:=zat (zbw x) 18
def zgK(x:In4):Nat:=zat (zca x) 18
theorem zp9{f:Nat→Bool}{m:Nat}(h:∀ i,i<18→m.testBit i=f i)(hm:m<2^18):zat f 18=m:=by
 refine Nat.eq_of_testBit_eq fun i=>?_
 rw[zb0]
 by_cases hi:i<18
 ·simp[hi,h i hi]
 ·simp only[hi,decide_false,Bool.false_and]
  exact(Nat.testBit_lt_two_pow (Nat.lt_of_lt_of_le hm (Nat.pow_le_pow_right (by decide) (by omega)))).symm
theorem ztO(k:Nat):zf6 k<2^18:=by
 unfold zf6
 split
 ·have:2^(k+2)≤2^17:=Nat.pow_le_pow_right (by decide) (by omega)
  omega
 ·decide
theorem zr0(k i:Nat)(hi:i<18):(zf6 k).testBit i=decide (k+2=i):=by
 unfold zf6
 split
 ·rw[Nat.testBit_two_pow]
 ·simp; omega
theorem low3(m i:Nat)(hm:m<4):m.testBit i=if i=0 then decide (m%2=1) else if i=1 then decide (2≤m) else false:=by
 match m,hm with
 | 0,_=>simp
 | 1,_ => 
  match i with
  | 0=>rfl
  | i+1=>simp[Nat.testBit_succ]
 | 2,_ =>
  match i with
  | 0=>rfl
  | 1=>rfl
  | i+2=>simp[Nat.testBit_succ]
 | 3,_ =>
  match i with
  | 0=>rfl
  | 1=>rfl
  | i+2=>simp[Nat.testBit_succ]
theorem zem{f:Nat→Bool}{m:Nat}(hm:m<4)(h0:f 0=decide (m%2=1))(h1:f 1=decide (2≤m))(h2:∀ i,2≤i→i<18→f i=false):zat f 18=m:=by
 refine zp9 (fun i hi=>?_) (by omega)
 rw[low3 m i hm]
 by_cases a:i=0
 ·subst a; simp[h0]
 ·by_cases b:i=1
  ·subst b; simp[h1]
  ·simp[a,b,h2 i (by omega) hi]
theorem zm9{f:Nat→Bool}{k:Nat}(h0:f 0=false)(h1:f 1=false)(h2:∀ i,2≤i→i<18→f i=decide (k+2=i)):zat f 18=zf6 k:=by
 refine zp9 (fun i hi=>?_) (ztO k)
 rw[zr0 k i hi]
 by_cases a:i=0
 ·subst a; simp[h0]
 ·by_cases b:i=1
  ·subst b; simp[h1]
  ·rw[h2 i (by omega) hi]
theorem zx3{op:Int}(h:(aluT op).2.1=true):(aluT op).2.2=true:=by
 unfold aluT at h ⊢
 split
 ·rfl
 ·split
  ·rfl
  ·rename_i h1 h2; rw[if_neg h1,if_neg h2] at h; cases h
theorem zvI[HasIns G][HasTells G](x:In4):FP G 168 [IV x] (.int .u32 (zhD x:Nat)):=by
 refine zak HasTells.h_live_Uses (Nat.le_of_ble_eq_true rfl) ?_
 have ha:=ziH (G:=G) x
 have hbx:=zwX (G:=G) x
 have hbr:=zcf (G:=G) x
 simp[IV,In4.cs] at ha hbx hbr ⊢
 refine zab ha ?_
 have mem:(x.op=96∨x.op=97)→(aluT x.op).2.2=false∧byXB x.op=false∧isBr x.op=false:=by
  rintro(h|h)<;>rw[h]<;>decide
 have mem2:(x.op=3∨x.op=135)→(aluT x.op).2.2=false∧byXB x.op=false∧isBr x.op=false:=by
  rintro(h|h)<;>rw[h]<;>decide
 by_cases h96:x.op=96∨x.op=97
 ·have hm:=mem h96
  have hw:zhD x=zf6 x.k:=zm9
   (by rcases h96 with h|h<;>(have hm:=hm; rw[h] at hm; simp[zbw,hm.1,hm.2.2,h])) (by rcases h96 with h|h<;>(have hm:=hm; rw[h] at hm; simp[zbw,hm.2.1,h]))
   (fun i h1 h2=>by simp[zbw,show¬i=0 from by omega,show¬i=1 from by omega,h96])
  rcases h96 with h|h<;>simp[h,beqF]<;>refine zab (zoq x.k) ?_<;>simp[hw]
 have n96:¬x.op=96:=fun h=>h96 (.inl h)
 have n97:¬x.op=97:=fun h=>h96 (.inr h)
 have hi:∀ i,2≤i→i<18→zbw x i=false:=fun i h1 h2=>by simp[zbw,show¬i=0 from by omega,show¬i=1 from by omega,n96,n97]
 by_cases h3:x.op=3∨x.op=135
 ·have hm:=mem2 h3
  have hw:zhD x=2:=zem (by decide) (by rcases h3 with h|h<;>(have hm:=hm; rw[h] at hm; simp[zbw,hm.1,hm.2.2,h])) (by rcases h3 with h|h<;>simp[zbw,h]) hi
  rcases h3 with h|h<;>simp[h,beqF,hw]
 have n3:¬x.op=3:=fun h=>h3 (.inl h)
 have n135:¬x.op=135:=fun h=>h3 (.inr h)
 simp[n96,n97,n3,n135,beqF]
 refine zab hbx ?_
 cases hb:byXB x.op
 case true =>
  have h0:zbw x 0=true:=by
   simp only[byXB,Bool.or_eq_true,decide_eq_true_eq] at hb
   rcases hb with hb|hb
   ·simp[zbw,zx3 hb]
   ·have:isBr x.op=true:=by simp only[isBr,decide_eq_true_eq]; simp only[List.mem_cons,List.not_mem_nil,or_false] at hb ⊢; omega
    simp[zbw,this]
  have hw:zhD x=3:=zem (by decide) (by rw[h0]; rfl) (by simp[zbw,hb]) hi
  simp[hw]
 have h1:zbw x 1=false:=by simp[zbw,hb,n3,n135]
 have fin:∀ b:Bool,zbw x 0=b→zhD x=b.toNat:=by
  intro b h0
  cases b
  ·exact zem (by decide) (by rw[h0]; rfl) (by rw[h1]; rfl) hi
  ·exact zem (by decide) (by rw[h0]; rfl) (by rw[h1]; rfl) hi
 cases hal:(aluT x.op).2.2
 case true=>simp[hal,fin true (by simp[zbw,hal])]
 simp[hal]
 refine zab hbr ?_
 cases hbr2:isBr x.op
 case true=>simp[fin true (by simp[zbw,hbr2])]
 by_cases e2:x.op=2
 ·simp[e2,fin true (by simp[zbw,e2])]
 by_cases e7:x.op=7
 ·simp[e7,fin true (by simp[zbw,e7])]
 by_cases e132:x.op=132
 ·simp[e132,fin true (by simp[zbw,e132])]
 by_cases e22:x.op=22
 ·simp[e22,fin true (by simp[zbw,e22])]
 simp[e2,e7,e132,e22,beqF,fin false (by simp[zbw,hal,hbr2,e2,e7,e132,e22])]
theorem zvJ[HasIns G][HasTells G](x:In4):FP G 169 [IV x] (.int .u32 (zgK x:Nat)):=by
 refine zak HasTells.h_live_Sets (Nat.le_of_ble_eq_true rfl) ?_
 have ha:=ziH (G:=G) x
 simp[IV,In4.cs] at ha ⊢
 refine zab ha ?_
 have one:∀(h0:zca x 0=true) (h1:zca x 1=false) (n2:¬x.op=2) (n3:¬x.op=3),zgK x=1:=fun h0 h1 n2 n3 =>
  zem (by decide) (by rw[h0]; rfl) (by rw[h1]; rfl) fun i a b=>by simp[zca,show¬i=0 from by omega,show¬i=1 from by omega,n2,n3]
 cases hal:(aluT x.op).2.2
 case true =>
  have hm:=zp8 hal
  have key:∀ p∈[4,20,36,52,68,84,100,116,164,12,28,44,60,76,92,108,124,(172:Int)],decide (p∈[1,97,(7:Int)])=false∧¬p=2∧¬p=3:=by decide
  have k:=key _ hm
  have:zgK x=1:=one (by simp[zca,hal]) (by simp only[zca]; simp; simpa using k.1) k.2.1 k.2.2
  simp[hal,this]
 simp[hal]
 have lst:∀ p∈[0,32,96,135,(132:Int)],x.op=p→zgK x=1:=by
  intro p hp he
  have key:∀ p∈[0,32,96,135,(132:Int)],decide (p∈[1,97,(7:Int)])=false∧¬p=2∧¬p=3:=by decide
  have k:=key p hp
  rw[←he] at k hp
  exact one (by simp only[zca]; simp at hp ⊢; simp[hp]) (by simp only[zca]; simp; simpa using k.1) k.2.1 k.2.2
 by_cases e0:x.op=0
 ·simp[e0,lst 0 (by decide) e0]
 by_cases e1:x.op=32
 ·simp[e1,lst 32 (by decide) e1]
 by_cases e2:x.op=96
 ·simp[e2,lst 96 (by decide) e2]
 by_cases e3:x.op=135
 ·simp[e3,lst 135 (by decide) e3]
 by_cases e4:x.op=132
 ·simp[e4,lst 132 (by decide) e4]
 have h0:zca x 0=false:=by simp[zca,hal,e0,e1,e2,e3,e4]
 have two:∀(h1:zca x 1=true) (n2:¬x.op=2) (n3:¬x.op=3),zgK x=2:=fun h1 n2 n3 =>
  zem (by decide) (by rw[h0]; rfl) (by rw[h1]; rfl) fun i a b=>by simp[zca,show¬i=0 from by omega,show¬i=1 from by omega,n2,n3]
 by_cases f0:x.op=1
 ·simp[f0,beqF,two (by simp[zca,f0]) (by omega) (by omega)]
 by_cases f1:x.op=97
 ·simp[f1,beqF,two (by simp[zca,f1]) (by omega) (by omega)]
 by_cases f2:x.op=7
 ·simp[f2,beqF,two (by simp[zca,f2]) (by omega) (by omega)]
 have h1:zca x 1=false:=by simp[zca,f0,f1,f2]
 by_cases g:x.op=2∨x.op=3
 ·have hw:zgK x=zf6 x.k:=zm9 h0 h1 (fun i a b=>by simp[zca,show¬i=0 from by omega,show¬i=1 from by omega,g])
  rcases g with h|h<;>simp[h,beqF]<;>refine zab (zoq x.k) ?_<;>simp[hw]
 ·have n2:¬x.op=2:=fun h=>g (.inl h)
  have n3:¬x.op=3:=fun h=>g (.inr h)
  have hw:zgK x=0:=zem (by decide) (by rw[h0]; rfl) (by rw[h1]; rfl) fun i a b=>by simp[zca,show¬i=0 from by omega,show¬i=1 from by omega,n2,n3]
  simp[e0,e1,e2,e3,e4,f0,f1,f2,n2,n3,beqF,hw]
end Go.Ev
/- States and records; which way a branch goes; the parts of two states. -/
namespace Go.Ev
open Go Go.RowKit
variable {G:Tbl}
structure St where
 a:Nat
 x:Nat
 m:List Nat
 deriving DecidableEq
def St.cs(s:St):List V:=.int .u32 (s.a:Int)::.int .u32 (s.x:Int)::zad .u32 s.m
def SV(s:St):V:=.agg s.cs
def St.ok(s:St):Prop:=s.a<4294967296∧s.x<4294967296∧s.m.length=16∧∀ w∈s.m,w<4294967296
structure Da where
 nr:Nat
 arch:Nat
 ip:Nat
 args:List Nat
def Da.cs(d:Da):List V:=.int .u32 (d.nr:Int)::.int .u32 (d.arch:Int)::.int .u64 (d.ip:Int)::zad .u64 d.args
def DV(d:Da):V:=.agg d.cs
def Da.ok(d:Da):Prop:=d.nr<4294967296∧d.arch<4294967296∧d.ip<18446744073709551616∧d.args.length=6∧∀ w∈d.args,w<18446744073709551616
theorem zx4(a b:V)(l:List V)(n:Nat):(a::b::l).take (2+n)=a::b::l.take n:=by rw[Nat.add_comm]; rfl
theorem zvb(a b:V)(l:List V)(n:Nat):(a::b::l).drop (2+n)=l.drop n:=by rw[Nat.add_comm]; rfl
theorem zvc(a:V)(l:List V)(n:Nat):(a::l).drop (2+n)=l.drop (n+1):=by rw[show 2+n=(n+1)+1 by omega]; rfl
theorem zwY(a b:V)(l:List V)(n:Nat):(a::b::l).drop (2+n+1)=l.drop (n+1):=by rw[show 2+n+1=(n+1)+2 by omega]; rfl
def takesB(s:St)(x:In4):Bool :=
 let b:=if x.op∈[29,45,61,77] then s.x else x.k
 if x.op=21∨x.op=29 then decide (s.a=b) else if x.op=37∨x.op=45 then decide (b<s.a) else if x.op=53∨x.op=61 then decide (b≤s.a) else if x.op=69∨x.op=77 then decide (s.a &&& b≠0) else false
theorem br_two{op:Int}(h:isBr op=true):op=21∨op=37∨op=53∨op=69∨op=29∨op=45∨op=61∨op=77:=by
 simpa[isBr] using h
end Go.Ev
/- A record's words, by data. -/
namespace Go.Ev
open Go Go.RowKit
variable {G:Tbl}
def lo(v:Nat):Nat:=v%4294967296
def hi(v:Nat):Nat:=v/4294967296%4294967296
def zaH(d:Da):List Nat:=[d.nr,d.arch,lo d.ip,hi d.ip]++d.args.flatMap fun a=>[lo a,hi a]
theorem zr1(l:List Nat):(l.flatMap fun a=>[lo a,hi a]).length=2*l.length:=by
 induction l with
 | nil=>rfl
 | cons a l ih=>simp only[List.flatMap_cons,List.length_append,ih,List.length_cons,List.length_nil]; omega
theorem zna:∀(l:List Nat) (i:Nat) (h:i<l.length),(l.flatMap fun a=>[lo a,hi a])[2*i]?=some (lo l[i])∧(l.flatMap fun a=>[lo a,hi a])[2*i+1]?=some (hi l[i])
 | [],i,h=>by simp at h
 | a::l,0,_=>by simp
 | a::l,i+1,h=>by
  have:=zna l i (by simpa using h)
  rw[show 2*(i+1)=2*i+2 by omega,show 2*i+2+1=2*i+1+2 by omega]
  simpa using this
theorem zbH{d:Da}(h:d.args.length=6):(zaH d).length=16:=by rw[zaH,List.length_append,zr1,h]; rfl
theorem zvd(v:Nat):lo v<4294967296:=Nat.mod_lt _ (by decide)
theorem zve(v:Nat):hi v<4294967296:=Nat.mod_lt _ (by decide)
theorem znb{d:Da}(h:d.ok):∀ w∈zaH d,w<4294967296:=by
 intro w hw
 simp only[zaH,List.mem_append,List.mem_cons,List.not_mem_nil,or_false,List.mem_flatMap] at hw
 rcases hw with(rfl|rfl|rfl|rfl)|⟨a,_,rfl|rfl⟩
 ·exact h.1
 ·exact h.2.1
 ·exact zvd _
 ·exact zve _
 ·exact zvd _
 ·exact zve _
theorem zvK(v:Nat):zaP .u32 (v:Int)=((lo v:Nat):Int):=rfl
theorem zwZ(v:Nat)(h:v<18446744073709551616):shrI .u64 (v:Int) 32=((v/4294967296:Nat):Int):=by
 unfold shrI
 have:(min (32:Int).toNat IntKind.u64.bits)=32:=by decide
 rw[this]
 change (v:Int).fdiv 4294967296=_
 rw[Int.fdiv_eq_ediv_of_nonneg _ (by decide)]
 rfl
theorem zx5(v:Nat):lo (v/4294967296)=hi v:=rfl
def H4(cs:List V)(l:List Nat)(n:Nat):Heap:=[some (.cells cs),some (.cells (zad .u32 (zae 16))),some (.cells (zad .u32 l)),some (.cells [.int .i64 n])]
theorem zor[HasData G](cs:List V)(l:List Nat)(n v:Nat)(hl:l.length=16)(hn:n+1<16)(hv:v<18446744073709551616) :
  Big G (.F 159 [.int .u64 v,.ptr 2 0,.ptr 3 0] (H4 cs l n) (.tup []) (H4 cs ((l.set n (lo v)).set (n+1) (hi v)) (n+2))):=by
 refine F_of HasData.h_data_words_1 (Nat.le_of_ble_eq_true rfl) ?_
 have c1:=zbs .u32 l n (lo v) (by omega)
 have c2:=zbs .u32 (l.set n (lo v)) (n+1) (hi v) (by simp; omega)
 have e1:addI .i64 (n:Int) 1=((n+1:Nat):Int):=zag (by omega)
 have e2:addI .i64 (n:Int) 2=((n+2:Nat):Int):=addL (n:=2) (by omega)
 have e3:=zwZ v hv
 have i1:((n:Int)<16)=True:=ltT (by omega)
 have i2:(((n+1:Nat):Int)<16)=True:=ltT (by omega)
 have j1:(n+1≤16)=True:=leTn (by omega)
 have j2:(n+1+1≤16)=True:=leTn (by omega)
 have j3:(n≤14)=True:=leTn (by omega)
 simp[H4,e1,e2,e3,zvK,zx5,hl,i1,i2,j1,j3,c1,c2,-Int.natCast_add,-Int.natCast_ediv]
theorem zlO(v:Nat)(h:v<18446744073709551616):zaP .u64 (v:Int)=(v:Int):=by unfold zaP; exact IntWalk.u64_in _ ⟨by omega,by omega⟩
theorem zr2(a b:Nat)(ha:a<4294967296)(hb:b<4294967296):orI .u64 (a:Int) (shlI .u64 (b:Int) 32)=((a+b*4294967296:Nat):Int):=by
 have h1:shlI .u64 (b:Int) 32=((b*4294967296:Nat):Int):=by
  unfold shlI
  have:(min (32:Int).toNat IntKind.u64.bits)=32:=by decide
  rw[this]
  rw[show((b:Int)*2^32)=((b*4294967296:Nat):Int) by omega]
  exact IntWalk.u64_in _ ⟨by omega,by omega⟩
 rw[h1]
 change IntKind.u64.wrap ((BitVec.ofInt 64 (a:Int) ||| BitVec.ofInt 64 ((b*4294967296:Nat):Int)).toNat:Int)=_
 rw[za0,za0]
 have h2:(BitVec.ofNat 64 a ||| BitVec.ofNat 64 (b*4294967296)).toNat=a+b*4294967296:=by
  rw[BitVec.toNat_or,BitVec.toNat_ofNat,BitVec.toNat_ofNat,Nat.mod_eq_of_lt (by omega),Nat.mod_eq_of_lt (by omega)]
  have:=Nat.two_pow_add_eq_or_of_lt (i:=32) (b:=a) (by omega) b
  rw[Nat.or_comm,Nat.mul_comm,show(4294967296:Nat)=2^32 from rfl,←this]
  omega
 rw[h2]
 exact IntWalk.u64_in _ ⟨by omega,by omega⟩
def zei(d:Da)(i:Nat):List Nat:=(zaH d).take (4+2*i)++zae (12-2*i)
theorem znc{d:Da}(h:d.args.length=6){i:Nat}(hi:i≤6):(zei d i).length=16:=by
 simp[zei,zbH h]; omega
theorem znd{d:Da}(h:d.args.length=6){i:Nat}(hi:i≤6)(j:Nat):(zei d i)[j]?=if j<4+2*i then(zaH d)[j]? else if j<16 then some 0 else none:=by
 have hl:=zbH h
 rw[zei,List.getElem?_append,List.length_take,hl,List.getElem?_take]
 by_cases h1:j<4+2*i
 ·rw[if_pos (by omega),if_pos h1,if_pos h1]
 ·rw[if_neg (by omega),if_neg h1]
  by_cases h2:j<16
  ·rw[if_pos h2]; simp[zae,List.getElem?_replicate]; omega
  ·rw[if_neg h2]; simp[zae,List.getElem?_replicate]; omega
theorem zq3{d:Da}(h:d.args.length=6){i:Nat}(hlt:i<6):((zei d i).set (4+2*i) (lo d.args[i])).set (4+2*i+1) (hi d.args[i])=zei d (i+1):=by
 have hl:=znc h (show i≤6 by omega)
 have hw:=zna d.args i (by omega)
 have g0:(zaH d)[4+2*i]?=some (lo d.args[i]):=by rw[zaH,List.getElem?_append_right (by simp)]; simpa using hw.1
 have g1:(zaH d)[4+2*i+1]?=some (hi d.args[i]):=by rw[zaH,List.getElem?_append_right (by simp; omega)]; simpa[show 4+2*i+1-4=2*i+1 by omega] using hw.2
 apply List.ext_getElem?
 intro j
 rw[znd h (by omega),List.getElem?_set,List.getElem?_set,List.length_set,hl,znd h (by omega)]
 by_cases e1:4+2*i+1=j
 ·subst e1
  rw[if_pos rfl,if_pos (by omega),if_pos (by omega),g1]
 ·rw[if_neg e1]
  by_cases e0:4+2*i=j
  ·subst e0
   rw[if_pos rfl,if_pos (by omega),if_pos (by omega),g0]
  ·rw[if_neg e0]
   by_cases h1:j<4+2*i
   ·rw[if_pos h1,if_pos (by omega)]
   ·rw[if_neg h1]
    by_cases h2:j<4+2*(i+1)
    ·omega
    ·rw[if_neg h2]
theorem zvL(d:Da)(h:d.args.length=6):((((zae 16).set 0 d.nr).set 1 d.arch).set 2 (lo d.ip)).set 3 (hi d.ip)=zei d 0:=by
 have:zae 16=0::0::0::0::zae 12:=rfl
 rw[this]
 simp[zei,zaH]
theorem zvM(d:Da)(h:d.args.length=6):zei d 6=zaH d:=by
 simp only[zei,show 12-2*6=0 from rfl,zae,List.replicate_zero,List.append_nil]
 exact List.take_of_length_le (by rw[zbH h]; exact Nat.le_refl _)
theorem zos[HasData G](d:Da)(hd:d.ok):FP G 160 [DV d] (.agg (zad .u32 (zaH d))):=by
 obtain⟨h1,h2,h3,h4,h5⟩:=hd
 refine zak HasData.h_data_words (Nat.le_of_ble_eq_true rfl) ?_
 have o:=zr2 d.nr d.arch h1 h2
 have e0:lo (d.nr+d.arch*4294967296)=d.nr:=by unfold lo; omega
 have e1:hi (d.nr+d.arch*4294967296)=d.arch:=by unfold hi; omega
 have p1:=zor (G:=G) d.cs (zae 16) 0 (d.nr+d.arch*4294967296) (by simp) (by decide) (by omega)
 have p2:=zor (G:=G) d.cs (((zae 16).set 0 d.nr).set 1 d.arch) 2 d.ip (by simp) (by decide) h3
 rw[e0,e1] at p1
 have ht:=zaj (k:=.u64) h4
 simp[H4,Da.cs,-Int.natCast_add,-Int.natCast_mul] at p1 p2
 simp(disch:=omega)[DV,Da.cs,zlO,o,-Int.natCast_add,-Int.natCast_mul]
 refine zaF p1 (by simp) ?_
 simp[zaa,zac]
 refine zaF p2 (by simp) ?_
 simp[zaa,zac,h4,ht]
 refine W_up 6 (fun i=>[(2,.ptr 1 0),(3,.ptr 2 0),(5,.fn 159 [.ptr 2 0,.ptr 3 0]),(24,.agg (zad .u64 d.args)),(25,.int .i64 i)])
  (fun i=>H4 d.cs (zei d i) (4+2*i)) (fun _=>True) ?_ ?_
 ·simp[zaa,zac,H4,Da.cs,zvL d h4]
 intro i hi _
 by_cases hlt:i<6
 ·have p3:=zor (G:=G) d.cs (zei d i) (4+2*i) d.args[i] (znc h4 hi) (by omega) (h5 _ (List.getElem_mem _))
  rw[zq3 h4 hlt] at p3
  have c1:=zaU .u64 d.args i (by omega)
  simp[H4,Da.cs,-Int.natCast_add,-Int.natCast_mul] at p3
  simp(disch:=omega)[ltT,leTn,h4,c1,H4,Da.cs,-Int.natCast_add,-Int.natCast_mul]
  refine zaF p3 (by simp) ?_
  simp(disch:=omega)[zac,zag,hlt,zaa,h4,show 4+2*(i+1)=4+2*i+2 from by omega,-Int.natCast_add,-Int.natCast_mul]
 ·have hne:i=6:=by omega
  subst hne
  have hl:=zbH h4
  have ht2:=zaj (k:=.u32) hl
  simp[H4,zvM d h4,hl,ht2]
def zgL(d:Da)(at':Nat):Nat×Bool:=if at'%4=0∧at'<64 then((zaH d).getD (at'/4) 0,true) else(0,false)
theorem zot[HasData G](n:Nat)(hn:n<4294967296):FP G 158 [.int .u32 n] (.bool (decide (n%4=0∧n<64))):=by
 refine zak HasData.h_data_there (Nat.le_of_ble_eq_true rfl) ?_
 have hr:remI (n:Int) 4=((n%4:Nat):Int):=zkB (b:=4)
 by_cases h:n%4=0
 ·have lt:((n:Int)<64)=(n<64):=propext (by omega)
  simp[hr,h,lt]
 ·have:((n%4:Nat):Int)≠0:=by omega
  simp[hr,h,beqF this,-Int.natCast_emod]
theorem zqa[HasData G](d:Da)(n:Nat)(hd:d.ok)(hn:n<4294967296):FP G 161 [DV d,.int .u32 n] (.tup [.int .u32 ((zgL d n).1:Nat),.bool (zgL d n).2]):=by
 refine zak HasData.h_data_Word (Nat.le_of_ble_eq_true rfl) ?_
 have hw:=zos (G:=G) d hd
 have ht:=zaj (k:=.u64) hd.2.2.2.1
 have h6:=hd.2.2.2.1
 simp[DV,Da.cs] at hw ⊢
 refine zab (zot n hn) ?_
 by_cases h:n%4=0∧n<64
 ·have hq:quoI .u32 (n:Int) 4=((n/4:Nat):Int):=zrq (b:=4) hn (by decide)
  have hl:=zbH h6
  have c:=zaU .u32 (zaH d) (n/4) (by omega)
  have hg:(zaH d).getD (n/4) 0=(zaH d)[n/4]'(by omega):=by simp[List.getD,List.getElem?_eq_getElem (show n/4<(zaH d).length by omega)]
  simp[h,h6,ht,zgL,hg]
  refine zab hw ?_
  simp(disch:=omega)[hq,ltT,leTn,hl,c,-Int.natCast_ediv]
 ·simp[h,zgL]
end Go.Ev
/- What an instruction makes of a state: run.Step. -/
namespace Go.Ev
open Go Go.RowKit
variable {G:Tbl}
def ziN(s:St)(k:Nat):Nat:=if k<16 then s.m.getD k 0 else 0
def ze0(s:St)(k v:Nat):St:=if k<16 then{ s with m:=s.m.set k v } else s
def zcE(s:St)(x:In4)(d:Da):St :=
 if x.op=0 then{ s with a:=x.k } else if x.op=1 then{ s with x:=x.k } else if x.op=32 then{ s with a:=(zgL d x.k).1 }
 else if x.op=96 then{ s with a:=ziN s x.k } else if x.op=97 then{ s with x:=ziN s x.k } else if x.op=2 then ze0 s x.k s.a else if x.op=3 then ze0 s x.k s.x
 else if x.op=7 then{ s with x:=s.a } else if x.op=135 then{ s with a:=s.x } else if x.op=132 then{ s with a:=negW s.a } else s
def aluB(s:St)(x:In4):Nat:=if(aluT x.op).2.1 then s.x else x.k
def aluR(s:St)(x:In4):Nat×Bool:=doW (aluT x.op).1 s.a (aluB s x)
def zbm(s:St)(x:In4)(d:Da):St×Bool :=
 if(aluT x.op).2.2 then(if(aluR s x).2 then{ s with a:=(aluR s x).1 } else s,(aluR s x).2) else(zcE s x d,true)
theorem ztP[HasStep G](s:St)(k:Nat)(hs:s.ok)(hk:k<4294967296):FP G 162 [SV s,.int .u32 k] (.int .u32 (ziN s k:Nat)):=by
 refine zak HasStep.h_run_cell (Nat.le_of_ble_eq_true rfl) ?_
 have hl:=hs.2.2.1
 by_cases h:16≤k
 ·have:(16:Int)≤(k:Int):=by omega
  simp[SV,St.cs,this,ziN,show¬k<16 from by omega]
 ·have h1:k<16:=by omega
  have c:=zaU .u32 s.m k (by omega)
  have hg:s.m.getD k 0=s.m[k]'(by omega):=by simp[List.getD,List.getElem?_eq_getElem (show k<s.m.length by omega)]
  have i1:((16:Int)≤(k:Int))=False:=leF (by omega)
  have i2:((k:Int)<16)=True:=ltT (by omega)
  have i3:(2+k+1≤16+1+1)=True:=leTn (by omega)
  simp[SV,St.cs,i1,i2,hl,zvb,zvc,c,ziN,h1,hg,show 2+k≤17 from by omega]
theorem zne[HasStep G](s:St)(k v:Nat)(hs:s.ok)(hk:k<4294967296):FP G 163 [SV s,.int .u32 k,.int .u32 v] (SV (ze0 s k v)):=by
 refine zak HasStep.h_run_store (Nat.le_of_ble_eq_true rfl) ?_
 have hl:=hs.2.2.1
 have ht:=zaj (k:=.u32) hl
 by_cases h1:k<16
 ·have c:=zbs .u32 s.m k v (by omega)
  have i2:((k:Int)<16)=True:=ltT (by omega)
  have ht2:(zad .u32 (s.m.set k v)).take 16=zad .u32 (s.m.set k v):=zaj (by simp[hl])
  simp[SV,St.cs,i2,hl,zvb,zvc,zwY,zx4,c,ze0,h1,ht2,show 2+k≤17 from by omega,show(k:Nat)≤15 from by omega]
 ·have i1:((k:Int)<16)=False:=ltF (by omega)
  simp[SV,St.cs,i1,ze0,h1,hl,ht]
theorem zw0[HasNeg G](a:Nat)(ha:a<4294967296):FP G 138 [.int .u32 a] (.int .u32 (negW a:Nat)):=by
 refine zak HasNeg.h_word_Neg (Nat.le_of_ble_eq_true rfl) ?_
 have:negI .u32 (a:Int)=((negW a:Nat):Int):=by unfold negI negW; rw[zgn]; omega
 simp[this]
theorem zlP{s:St}(hs:s.ok){k v:Nat}(hv:v<4294967296):(ze0 s k v).ok:=by
 unfold ze0
 split
 ·refine⟨hs.1,hs.2.1,by simp[hs.2.2.1],fun w hw=>?_⟩
  rcases List.mem_or_eq_of_mem_set hw with h|h
  ·exact hs.2.2.2 w h
  ·rw[h]; exact hv
 ·exact hs
theorem ztQ{s:St}(hs:s.ok)(k:Nat):ziN s k<4294967296:=by
 unfold ziN
 split
 ·rename_i h
  rw[List.getD,List.getElem?_eq_getElem (show k<s.m.length by rw[hs.2.2.1]; exact h),Option.getD_some]
  exact hs.2.2.2 _ (List.getElem_mem _)
 ·decide
theorem ztR{d:Da}(hd:d.ok)(k:Nat):(zgL d k).1<4294967296:=by
 unfold zgL
 split
 ·rename_i h
  have hl:=zbH hd.2.2.2.1
  simp only[List.getD,List.getElem?_eq_getElem (show k/4<(zaH d).length by omega),Option.getD_some]
  exact znb hd _ (List.getElem_mem _)
 ·decide
theorem zqb{s:St}(hs:s.ok){x:In4}(hk:x.k<4294967296):aluB s x<4294967296:=by
 unfold aluB
 split
 ·exact hs.2.1
 ·exact hk
theorem ztS{s:St}(hs:s.ok){x:In4}(hk:x.k<4294967296){d:Da}(hd:d.ok):(zcE s x d).ok:=by
 obtain⟨h1,h2,h3,h4⟩:=hs
 have hn:negW s.a<4294967296:=Nat.mod_lt _ (by decide)
 have hc:=ztQ ⟨h1,h2,h3,h4⟩ x.k
 have hw:=ztR hd x.k
 unfold zcE
 repeat' split
 all_goals first
  | exact⟨hk,h2,h3,h4⟩
  | exact⟨h1,hk,h3,h4⟩
  | exact⟨hw,h2,h3,h4⟩
  | exact⟨hc,h2,h3,h4⟩
  | exact⟨h1,hc,h3,h4⟩
  | exact zlP ⟨h1,h2,h3,h4⟩ h1
  | exact zlP ⟨h1,h2,h3,h4⟩ h2
  | exact⟨h1,h1,h3,h4⟩
  | exact⟨h2,h2,h3,h4⟩
  | exact⟨hn,h2,h3,h4⟩
  | exact⟨h1,h2,h3,h4⟩
theorem znf{s:St}(hs:s.ok){x:In4}(hk:x.k<4294967296){d:Da}(hd:d.ok):(zbm s x d).1.ok:=by
 unfold zbm
 split
 ·simp only
  split
  ·exact⟨zob _ hs.1 (zqb hs hk),hs.2⟩
  ·exact hs
 ·exact ztS hs hk hd
theorem zvN[HasWd G][HasNeg G][HasIns G][HasData G][HasStep G](s:St)(x:In4)(d:Da)(hs:s.ok)(hk:x.k<4294967296)(hd:d.ok) :
  FP G 164 [SV s,IV x,DV d] (.tup [SV (zbm s x d).1,.bool (zbm s x d).2]):=by
 refine zak HasStep.h_run_Step (Nat.le_of_ble_eq_true rfl) ?_
 have hl:=hs.2.2.1
 have ht:=zaj (k:=.u32) hl
 have h6:=hd.2.2.2.1
 have ht6:=zaj (k:=.u64) h6
 have ha:=ziH (G:=G) x
 have hD:=zix (G:=G) inferInstance (aluT x.op).1 s.a (aluB s x) hs.1 (zqb hs hk)
 have hW:=zqa (G:=G) d x.k hd hk
 have hC:=ztP (G:=G) s x.k hs hk
 have hS1:=zne (G:=G) s x.k s.a hs hk
 have hS2:=zne (G:=G) s x.k s.x hs hk
 have hN:=zw0 (G:=G) s.a hs.1
 have hlS:∀ v,(ze0 s x.k v).m.length=16:=fun v=>by unfold ze0; split<;>simp[hl]
 have htS:=fun v=>zaj (k:=.u32) (hlS v)
 simp[SV,IV,DV,In4.cs,St.cs,Da.cs] at ha hW hC hS1 hS2 ⊢
 refine zab ha ?_
 cases hal:(aluT x.op).2.2
 case true =>
  simp[hal]
  have hst:zbm s x d=(if(aluR s x).2 then{ s with a:=(aluR s x).1 } else s,(aluR s x).2):=by simp[zbm,hal]
  cases hx:(aluT x.op).2.1
  ·have:aluB s x=x.k:=by simp[aluB,hx]
   rw[this] at hD
   simp[hx]
   refine zab hD ?_
   cases hg:(doW (aluT x.op).1 s.a x.k).2<;>simp[hg,hst,aluR,this,hl,ht]
  ·have:aluB s x=s.x:=by simp[aluB,hx]
   rw[this] at hD
   simp[hx]
   refine zab hD ?_
   cases hg:(doW (aluT x.op).1 s.a s.x).2<;>simp[hg,hst,aluR,this,hl,ht]
 simp[hal]
 have hst:zbm s x d=(zcE s x d,true):=by simp[zbm,hal]
 rw[hst]
 by_cases e0:x.op=0
 ·simp[e0,zcE,hl,ht]
 by_cases e1:x.op=1
 ·simp[e1,beqF,zcE,hl,ht]
 by_cases e2:x.op=32
 ·simp[e2,beqF,zcE,h6,ht6]
  refine zab hW ?_
  simp[hl,ht]
 by_cases e3:x.op=96
 ·simp[e3,beqF,zcE,hl,ht]
  refine zab hC ?_
  simp[hl,ht]
 by_cases e4:x.op=97
 ·simp[e4,beqF,zcE,hl,ht]
  refine zab hC ?_
  simp[hl,ht]
 by_cases e5:x.op=2
 ·simp[e5,beqF,zcE,hl,ht]
  refine zab hS1 ?_
  simp[hl,hlS,htS]
 by_cases e6:x.op=3
 ·simp[e6,beqF,zcE,hl,ht]
  refine zab hS2 ?_
  simp[hl,hlS,htS]
 by_cases e7:x.op=7
 ·simp[e7,beqF,zcE,hl,ht]
 by_cases e8:x.op=135
 ·simp[e8,beqF,zcE,hl,ht]
 by_cases e9:x.op=132
 ·simp[e9,beqF,zcE]
  refine zab hN ?_
  simp[hl,ht]
 simp[e0,e1,e2,e3,e4,e5,e6,e7,e8,e9,beqF,zcE,hl,ht]
end Go.Ev
/- The words of a record, by hurdleref04. -/
namespace Go.Ev
open Go Go.RowKit
variable {G:Tbl}
def lowL(v n:Nat):List Nat:=(List.range n).map fun j=>v/256^j%256
theorem zr3(v n:Nat):lowL v (n+1)=lowL v n++[v/256^n%256]:=by simp[lowL,List.range_succ]
theorem zle(v n:Nat):(lowL v n).length=n:=by simp[lowL]
def num:List Nat→Nat
 | []=>0
 | b::l=>b+256*num l
end Go.Ev
/- An instruction changes nothing but what it sets, and hangs on what it zc0. -/
namespace Go.Ev
open Go Go.RowKit
variable {G:Tbl}
def part(s:St):Nat→Nat
 | 0=>s.a
 | 1=>s.x
 | i+2=>s.m.getD i 0
end Go.Ev
