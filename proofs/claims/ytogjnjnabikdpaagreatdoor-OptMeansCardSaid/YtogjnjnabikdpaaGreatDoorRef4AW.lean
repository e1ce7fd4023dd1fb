/- The words of a record, by hurdleref04. -/
import Derived.Test.YtogjnjnabikdpaaGreatDoorCheckAW
import Derived.Test.YtogjnjnabikdpaaGreatDoorEvXW
import Derived.Test.YtogjnjnabikdpaaGreatDoorEvInsCW
import Derived.Test.YtogjnjnabikdpaaGreatDoorEvSymCW
import Derived.Test.YtogjnjnabikdpaaGreatDoorSymJW
set_option linter.unusedSimpArgs false
set_option linter.unusedVariables false
set_option maxHeartbeats 4000000
set_option maxRecDepth 10000
namespace Go.Ev
open Go Go.RowKit
variable {G:Tbl}
theorem zws{a b:Nat}(ha:a<18446744073709551616):quoI .u64 (a:Int) (b:Int)=((a/b:Nat):Int):=by
 have h:a/b≤a:=Nat.div_le_self _ _
 unfold quoI
 have h2:((a:Int).tdiv (b:Int))=((a/b:Nat):Int):=rfl
 rw[h2]
 exact IntWalk.u64_in _ ⟨Int.natCast_nonneg _,by rw[Int.ofNat_le.symm] at h; omega⟩
theorem zxK{a:Nat}(ha:a<256):zaG .u8 (a:Int)=(a:Int):=by
 unfold zaG; exact IntWalk.u8_in _ ⟨by omega,by omega⟩
def lowL(v n:Nat):List Nat:=(List.range n).map fun j=>v/256^j%256
theorem znn(v n:Nat):lowL v (n+1)=lowL v n++[v/256^n%256]:=by simp[lowL,List.range_succ]
theorem zcd(v n:Nat):(lowL v n).length=n:=by simp[lowL]
theorem zsV[HasR4 G](v n:Nat)(hv:v<18446744073709551616)(hn:n≤8){H:Heap}(hH:za1 H):Big G (.F 182 [.int .u64 v,.int .i64 n] H (.vs (nats .u8 (lowL v n)) (.own H.length)) (H++[some (.zone n)])):=by
 refine F_of HasR4.h_hurdleref04_low (Nat.le_of_ble_eq_true rfl) ?_
 have ht:=ze4 hH
 simp
 refine W_up n (fun i=>[(0,.int .u64 (v/256^i:Nat)),(1,.int .i64 n),(5,.vs (nats .u8 (lowL v i)) (.own H.length)),(6,.int .i64 i)]) (fun i=>H++[some (.zone i)]) (fun _=>True) ?_ ?_
 ·simp[zaa,lowL,ht]
 intro i hi _
 by_cases hlt:i<n
 ·have hd:v/256^i<18446744073709551616:=Nat.lt_of_le_of_lt (Nat.div_le_self _ _) hv
  have hr:remI ((v/256^i:Nat):Int) 256=((v/256^i%256:Nat):Int):=zeV (b:=256)
  have hq:quoI .u64 ((v/256^i:Nat):Int) 256=((v/256^(i+1):Nat):Int):=by
   rw[Nat.pow_succ,←Nat.div_div_eq_div_mul]; exact zws (b:=256) hd
  have hc:zaG .u8 ((v/256^i%256:Nat):Int)=((v/256^i%256:Nat):Int):=zxK (Nat.mod_lt _ (by decide))
  have hll:=zcd v i
  have hls:=znn v i
  simp(disch:=omega)[ltT,hr,hq,hc,hll,hls,leTn,zag,hlt,zaa,ht,List.getElem?_append_right,List.set_append_right,-Int.natCast_add,-Int.natCast_ediv,-Int.natCast_emod,-Int.natCast_pow]
 ·have hne:i=n:=by omega
  subst hne
  simp[-Int.natCast_ediv]
theorem zrB[HasR4 G](v n:Nat)(hv:v<18446744073709551616)(hn:n≤8):FP G 182 [.int .u64 v,.int .i64 n] (.vs (nats .u8 (lowL v n)) .no) :=
 ⟨_,_,zsV v n hv hn (H:=[]) (fun _ _=>rfl),by simp⟩
def num:List Nat→Nat
 | []=>0
 | b::l=>b+256*num l
theorem zsW:∀ l:List Nat,(∀ b∈l,b<256)→num l<256^l.length
 | [],_=>by decide
 | b::l,h=>by
  have h1:=zsW l fun c hc=>h c (by simp[hc])
  have h2:=h b (by simp)
  rw[num,List.length_cons,Nat.pow_succ]; omega
theorem zsX[HasR4 G](l:List Nat)(hl:l.length≤7)(hb:∀ b∈l,b<256):FP G 183 [.vs (nats .u8 l) .no] (.int .u64 (num l:Nat)):=by
 refine zak HasR4.h_hurdleref04_number (Nat.le_of_ble_eq_true rfl) ?_
 have s1:subI .i64 (l.length:Int) 1=(l.length:Int)-1:=by rw[zcc]<;>omega
 simp[s1]
 refine W_up l.length (fun i=>[(0,.vs (nats .u8 l) .no),(3,.int .u64 (num (l.drop (l.length-i)):Nat)),(4,.int .i64 ((l.length:Int)-1-i))]) (fun _=>[]) (fun _=>True) ?_ ?_
 ·simp[zaa,zad,num]
 intro i hi _
 by_cases hlt:i<l.length
 ·have ht:∃ t,t=l.length-1-i:=⟨_,rfl⟩
  obtain⟨t,ht⟩:=ht
  have e1:(l.length:Int)-1-i=(t:Int):=by omega
  have e2:l.length-i=t+1:=by omega
  have e3:l.length-(i+1)=t:=by omega
  have htl:t<l.length:=by omega
  have hg:l[t]?=some l[t]:=List.getElem?_eq_getElem htl
  have hbt:=hb l[t] (List.getElem_mem htl)
  have hdr:=List.drop_eq_getElem_cons htl
  have h1:=zsW (l.drop (t+1)) fun c hc=>hb c (List.mem_of_mem_drop hc)
  have h2:256^(l.drop (t+1)).length≤256^6:=Nat.pow_le_pow_right (by decide) (by rw[List.length_drop]; omega)
  have h2':(256:Nat)^6=281474976710656:=by decide
  have hs:subI .i64 (t:Int) 1=(l.length:Int)-1-((i+1:Nat):Int):=by rw[zcc]<;>omega
  generalize l[t]=b at hg hbt hdr
  have hn:num (l.drop t)=b+256*num (l.drop (t+1)):=by rw[hdr]; rfl
  obtain⟨q,hqq⟩:∃ q,q=num (l.drop (t+1)):=⟨_,rfl⟩
  rw[←hqq] at h1 hn
  have hm:mulI .u64 (q:Int) 256=((q*256:Nat):Int):=by unfold mulI; rw[show(q:Int)*256=((q*256:Nat):Int) by omega]; exact IntWalk.u64_in _ ⟨by omega,by omega⟩
  have ha:addI .u64 ((q*256:Nat):Int) (b:Int)=((num (l.drop t):Nat):Int):=by unfold addI; rw[hn,show((q*256:Nat):Int)+(b:Int)=((b+256*q:Nat):Int) by omega]; exact IntWalk.u64_in _ ⟨by omega,by omega⟩
  have hc:zaG .u64 (b:Int)=(b:Int):=zh8 b (by omega)
  obtain⟨_,hgv⟩:=List.getElem?_eq_some_iff.1 hg
  rw[e2,←hqq]
  simp(disch:=omega)[e1,e3,leT,hg,hgv,hc,hm,ha,hs,hlt,zaa,zad,-Int.natCast_add,-Int.natCast_mul]
 ·have hne:i=l.length:=by omega
  subst hne
  have hF:((l.length:Int)≤(l.length:Int)-1)=False:=eq_false (by omega)
  simp[hF]
def zc1(d:Da)(n:Nat):List Nat:=lowL d.nr 4++lowL d.arch 4++lowL d.ip 8++(d.args.take n).flatMap fun a=>lowL a 8
theorem low8(v:Nat):lowL v 8=lowL (lo v) 4++lowL (hi v) 4:=by
 simp only[lowL,List.range_succ,List.range_zero,List.nil_append,List.map_append,List.map_cons,List.map_nil,List.cons_append,lo,hi]
 simp only[Nat.reducePow,List.cons.injEq,and_true]
 and_intros<;>omega
theorem zwt(v:Nat)(h:v<4294967296):num (lowL v 4)=v:=by
 simp only[lowL,List.range_succ,List.range_zero,List.nil_append,List.map_append,List.map_cons,List.map_nil,List.cons_append,num]
 omega
theorem zxL(v n:Nat):∀ b∈lowL v n,b<256:=by
 intro b hb
 simp only[lowL,List.mem_map] at hb
 obtain⟨j,_,rfl⟩:=hb
 exact Nat.mod_lt _ (by decide)
theorem zno(d:Da)(n:Nat):(zc1 d n).length=16+8*(d.args.take n).length:=by
 have:∀ l:List Nat,(l.flatMap fun a=>lowL a 8).length=8*l.length:=by
  intro l
  induction l with
  | nil=>rfl
  | cons a l ih=>rw[List.flatMap_cons,List.length_append,ih,zcd,List.length_cons]; omega
 simp only[zc1,List.length_append,zcd,this]
theorem zpU(d:Da)(h1:d.nr<4294967296)(h2:d.arch<4294967296)(h6:d.args.length=6):zc1 d 6=((zaA d).map fun w=>lowL w 4).flatten:=by
 have h:∀ l:List Nat,(l.flatMap fun a=>lowL a 8)=((l.flatMap fun a=>[lo a,hi a]).map fun w=>lowL w 4).flatten:=by
  intro l
  induction l with
  | nil=>rfl
  | cons a l ih=>simp only[List.flatMap_cons,List.map_append,List.flatten_append,ih,←low8]; simp[low8,ih]
 rw[zc1,List.take_of_length_le (by omega),h,low8]
 simp[zaA]
theorem zuN[HasR4 G](d:Da)(hd:d.ok):FP G 184 [DV d] (.vs (nats .u8 (zc1 d 6)) .no):=by
 refine zak HasR4.h_hurdleref04_Bytes (Nat.le_of_ble_eq_true rfl) ?_
 obtain⟨d1,d2,d3,d4,d5⟩:=hd
 have ht6:=zah (k:=.u64) d4
 have c1:=zh8 d.nr (by omega)
 have c2:=zh8 d.arch (by omega)
 have n1:∀ v n:Nat,n≠0→(nats .u8 (lowL v n)=[])=False:=fun v n h=>eq_false (by rw[zpP]; intro h2; have:=zcd v n; rw[h2] at this; exact h this.symm)
 simp[DV,Da.cs,c1,c2,d4,ht6]
 refine zfK (zsV d.nr 4 (by omega) (by decide) (by intro m _; simp)) (by simp) ?_
 simp[c2]
 refine zab (zrB d.arch 4 (by omega) (by decide)) ?_
 simp[zcd,n1]
 refine zab (zrB d.ip 8 d3 (by decide)) ?_
 simp[zcd,n1,zkJ]
 refine W_up 6 (fun i=>[(1,.ptr 0 0),(3,.vs (nats .u8 (zc1 d i)) (.own 2)),(4,.int .i64 i)])
  (fun i=>[some (.cells (.int .u32 (d.nr:Int)::.int .u32 (d.arch:Int)::.int .u64 (d.ip:Int)::zac .u64 d.args)),none,some (.zone (16+8*i)),none]) (fun _=>True) ?_ ?_
 ·simp[zaa,zad,zc1]
 intro i hi _
 by_cases hlt:i<6
 ·have hg:d.args[i]?=some d.args[i]:=List.getElem?_eq_getElem (by omega)
  have hv:=d5 _ (List.getElem_mem (show i<d.args.length by omega))
  have hc:=zaO .u64 d.args i (by omega)
  have hb:=zno d i
  have hbs:zc1 d (i+1)=zc1 d i++lowL d.args[i] 8:=by
   unfold zc1
   rw[List.take_add_one,hg,Option.toList_some,List.flatMap_append,←List.append_assoc]; simp
  have htl:(d.args.take i).length=i:=by rw[List.length_take]; omega
  rw[htl] at hb
  have drop3:∀(a b c:V) (l:List V) (n:Nat),(a::b::c::l).drop (3+n)=l.drop n:=fun a b c l n=>by rw[Nat.add_comm]; rfl
  generalize d.args[i]=w at hg hv hc hbs
  simp(disch:=omega)[ltT,leTn,drop3,hc,d4,-Int.natCast_add]
  refine zab (zrB w 8 hv (by decide)) ?_
  simp(disch:=omega)[zcd,n1,zkJ,hb,←hbs,leTn,zag,hlt,zaa,zad,-Int.natCast_add]
  omega
 ·have hne:i=6:=by omega
  subst hne
  simp
theorem zuO{d:Da}(hd:d.ok){j:Nat}(h:j<16):(((zc1 d 6).drop (4*j)).take 4)=lowL ((zaA d).getD j 0) 4:=by
 rw[zpU d hd.1 hd.2.1 hd.2.2.2.1,Nat.mul_comm]
 have hl:=zbt hd.2.2.2.1
 refine zmK (fun w=>lowL w 4) 4 (fun w=>zcd w 4) (zaA d) j _ ?_
 rw[List.getD,List.getElem?_eq_getElem (show j<(zaA d).length by omega)]; rfl
theorem zuP[HasR4 G](d:Da)(n:Nat)(hd:d.ok)(hn:n<4294967296):FP G 185 [DV d,.int .u32 n] (.tup [.int .u32 ((zb2 d n).1:Nat),.bool (zb2 d n).2]):=by
 refine zak HasR4.h_hurdleref04_Word (Nat.le_of_ble_eq_true rfl) ?_
 have hB:=zuN (G:=G) d hd
 have hd':=hd
 obtain⟨d1,d2,d3,d4,d5⟩:=hd
 have ht6:=zah (k:=.u64) d4
 have r4:remI (n:Int) 4=((n%4:Nat):Int):=zeV (b:=4)
 have hz:(((n%4:Nat):Int)==0)=decide (n%4=0):=by rw[Bool.eq_iff_iff]; simp[-Int.natCast_emod]
 have hzn:(((n%4:Nat):Int) !=0)=decide (n%4≠0):=by rw[Bool.eq_iff_iff]; simp[-Int.natCast_emod]
 have hc:=zdJ n hn
 simp[DV,Da.cs] at hB ⊢
 by_cases h4:n%4=0
 ·by_cases h64:n<64
  ·have hlt:((64:Int)≤(n:Int))=False:=leF (by omega)
   have hj:4*(n/4)=n:=by omega
   have hat:=zuO hd' (show n/4<16 by omega)
   rw[hj] at hat
   have hlen:=zno d 6
   rw[List.take_of_length_le (by omega),d4] at hlen
   have hw:zb2 d n=((zaA d).getD (n/4) 0,true):=by simp[zb2,h4,h64]
   have hlt2:=zor hd' n
   rw[hw] at hlt2 ⊢
   simp only at hlt2
   have hnum:=zwt _ hlt2
   have hno:=zsX (G:=G) (lowL ((zaA d).getD (n/4) 0) 4) (by rw[zcd]; decide) (zxL _ _)
   have ha4:addI .i64 (n:Int) 4=((n+4:Nat):Int):=by rw[zaD]<;>omega
   simp only at hnum hno ⊢
   generalize(zaA d).getD (n/4) 0=w at hat hnum hno hlt2
   have hcv:zaG .u32 (w:Int)=(w:Int):=by unfold zaG; exact zaM hlt2
   simp[r4,hzn,h4,hlt,hc,ht6,d4,-Int.natCast_emod]
   refine zab hB ?_
   have hb2:0≤(n:Int)∧n≤n+4∧n+4≤(zc1 d 6).length:=by omega
   have hF:(((n+4:Nat):Int)≤64)=True:=eq_true (by omega)
   simp(disch:=omega)[ha4,hlen,hF,leTn,zst,zsu,hat,-Int.natCast_add]
   refine zab hno ?_
   simp[hnum,hcv]
  ·have hlt:((64:Int)≤(n:Int))=True:=leT (by omega)
   have hw:zb2 d n=(0,false):=by simp[zb2,h64]
   rw[hw]
   simp[r4,hzn,h4,hlt,-Int.natCast_emod]
 ·have hw:zb2 d n=(0,false):=by simp[zb2,h4]
  rw[hw]
  simp[r4,hzn,h4,-Int.natCast_emod]
end Go.Ev
/- What an instruction makes of a state, by hurdleref06. -/
namespace Go.Ev
open Go Go.RowKit
variable {G:Tbl}
def stAt(s:St)(x:In4)(i:Nat):St:=if x.k<i∧x.k<16 then(if x.op=2 then{ s with m:=s.m.set x.k s.a } else if x.op=3 then{ s with m:=s.m.set x.k s.x } else s) else s
def zgE(s:St)(x:In4)(i:Nat):Nat:=if x.k<i∧x.k<16 then s.m.getD x.k 0 else 0
theorem zuQ[HasR2 G][hR1:HasR1 G][HasR1n G][HasR4 G][HasR6s G](s:St)(x:In4)(d:Da)(hs:s.ok)(hk:x.k<4294967296)(hd:d.ok) :
  FP G 190 [SV s,IV x,DV d] (.tup [SV (zas s x d).1,.bool (zas s x d).2]):=by
 refine zak HasR6s.h_hurdleref06_Step (Nat.le_of_ble_eq_true rfl) ?_
 have hl:=hs.2.2.1
 have ht:=zah (k:=.u32) hl
 have h6:=hd.2.2.2.1
 have ht6:=zah (k:=.u64) h6
 have ha:=zwJ (G:=G) x
 have hD:=zpl hR1 (aluT x.op).1 s.a (aluB s x) hs.1 (zmb hs hk)
 have hW:=zuP (G:=G) d x.k hd hk
 have hN:=zwG (G:=G) s.a hs.1
 simp[SV,IV,DV,In4.cs,St.cs,Da.cs] at ha hW ⊢
 refine zab ha ?_
 cases hal:(aluT x.op).2.2
 case true =>
  have hst:zas s x d=(if(aluR s x).2 then{ s with a:=(aluR s x).1 } else s,(aluR s x).2):=by simp[zas,hal]
  cases hx:(aluT x.op).2.1
  ·have:aluB s x=x.k:=by simp[aluB,hx]
   rw[this] at hD
   simp[hx]
   refine zab hD ?_
   cases hg:(doW (aluT x.op).1 s.a x.k).2<;>simp[hg,hst,aluR,this,hl,ht]
  ·have:aluB s x=s.x:=by simp[aluB,hx]
   rw[this] at hD
   simp[hx]
   refine zab hD ?_
   cases hg:(doW (aluT x.op).1 s.a s.x).2<;>simp[hg,hst,aluR,this,hl,ht]
 simp
 refine W_up 16 (fun i=>[(3,.ptr 0 0),(4,.ptr 1 0),(5,.ptr 2 0),(6,.ptr 3 0),(14,.int .u32 (zgE s x i:Nat)),(15,.int .i64 i)])
  (fun i=>[some (.cells (stAt s x i).cs),some (.cells x.cs),some (.cells d.cs),some (.cells (zac .u32 (zae 18)))]) (fun _=>True) ?_ ?_
 ·simp[zaa,zad,stAt,zgE,St.cs,In4.cs,Da.cs]
 intro i hi _
 have hsl:(stAt s x i).m.length=16:=by unfold stAt; split<;>(try split)<;>(try split)<;>simp[hl]
 by_cases hlt:i<16
 ·have hcv:zaG .u32 (i:Int)=(i:Int):=by unfold zaG; exact zaM (by omega)
  have i3:(2+i+1≤16+1+1)=True:=leTn (by omega)
  by_cases hik:i=x.k
  ·have hk16:x.k<16:=by omega
   have he:((i:Int)==(x.k:Int))=true:=by simp[hik]
   have hst0:stAt s x i=s:=by unfold stAt; rw[if_neg (by omega)]
   have hval:zgE s x (i+1)=s.m[i]'(by omega):=by
    unfold zgE; rw[if_pos (by omega),←hik,List.getD,List.getElem?_eq_getElem (by omega)]; rfl
   have c:=zaO .u32 s.m i (by omega)
   have cs1:=zbc .u32 s.m i s.a (by omega)
   have cs2:=zbc .u32 s.m i s.x (by omega)
   rw[hst0]
   by_cases h2:x.op=2
   ·have hst1:stAt s x (i+1)={ s with m:=s.m.set i s.a }:=by unfold stAt; rw[if_pos (by omega),if_pos h2,hik]
    simp(disch:=omega)[ltT,hcv,he,St.cs,In4.cs,Da.cs,h2,hlt,hl,zlt,zlu,zlv,znT,c,cs1,i3,leTn,hval,hst1,zag,zaa,zad,show 2+i≤17 from by omega,-Int.natCast_add]
   ·have n2:(x.op==2)=false:=beqF h2
    by_cases h3:x.op=3
    ·have hst1:stAt s x (i+1)={ s with m:=s.m.set i s.x }:=by unfold stAt; rw[if_pos (by omega),if_neg h2,if_pos h3,hik]
     simp(disch:=omega)[ltT,hcv,he,St.cs,In4.cs,Da.cs,h3,hlt,hl,zlt,zlu,zlv,znT,c,cs2,i3,leTn,hval,hst1,zag,zaa,zad,show 2+i≤17 from by omega,-Int.natCast_add]
    ·have n3:(x.op==3)=false:=beqF h3
     have hst1:stAt s x (i+1)=s:=by unfold stAt; rw[if_pos (by omega),if_neg h2,if_neg h3]
     simp(disch:=omega)[ltT,hcv,he,St.cs,In4.cs,Da.cs,n2,n3,hlt,hl,zlt,zlu,zlv,znT,c,i3,leTn,hval,hst1,zag,zaa,zad,show 2+i≤17 from by omega,-Int.natCast_add]
  ·have he:((i:Int)==(x.k:Int))=false:=beqF (by omega)
   have hst1:stAt s x (i+1)=stAt s x i:=by
    unfold stAt
    by_cases h:x.k<i∧x.k<16
    ·rw[if_pos h,if_pos (by omega)]
    ·rw[if_neg h,if_neg (by omega)]
   have hval:zgE s x (i+1)=zgE s x i:=by
    unfold zgE
    by_cases h:x.k<i∧x.k<16
    ·rw[if_pos h,if_pos (by omega)]
    ·rw[if_neg h,if_neg (by omega)]
   simp(disch:=omega)[ltT,hcv,he,St.cs,In4.cs,Da.cs,hlt,hst1,hval,zag,zaa,zad,-Int.natCast_add]
 ·have hne:i=16:=by omega
  subst hne
  have hst:zas s x d=(zaF s x d,true):=by simp[zas,hal]
  rw[hst]
  have hv:zgE s x 16=zdi s x.k:=by
   unfold zgE zdi
   by_cases h:x.k<16
   ·rw[if_pos ⟨h,h⟩,if_pos h]
   ·rw[if_neg (by omega),if_neg h]
  have h2:x.op=2→stAt s x 16=zaF s x d:=by
   intro h
   simp only[stAt,zaF,zbP,h]
   by_cases hk:x.k<16<;>simp[hk]
  have h3:x.op=3→stAt s x 16=zaF s x d:=by
   intro h
   simp only[stAt,zaF,zbP,h]
   by_cases hk:x.k<16<;>simp[hk]
  have h0:x.op≠2→x.op≠3→stAt s x 16=s:=by
   intro a b
   unfold stAt
   simp[a,b]
  have hsl2:=zah (k:=.u32) hsl
  rw[hv]
  simp only[St.cs,In4.cs,Da.cs]
  by_cases e5:x.op=2
  ·rw[h2 e5] at hsl hsl2 ⊢
   simp[e5,beqF,hsl,hsl2,-Int.natCast_add]
  by_cases e6:x.op=3
  ·rw[h3 e6] at hsl hsl2 ⊢
   simp[e6,beqF,hsl,hsl2,-Int.natCast_add]
  rw[h0 e5 e6]
  clear h0 h2 h3 hsl hsl2
  by_cases e0:x.op=0
  ·simp[e0,zaF,hl,ht]
  by_cases e1:x.op=1
  ·simp[e1,beqF,zaF,hl,ht]
  by_cases e2:x.op=32
  ·simp[e2,beqF,zaF,h6,ht6]
   refine zab hW ?_
   simp[hl,ht]
  by_cases e3:x.op=96
  ·simp[e3,beqF,zaF,hl,ht]
  by_cases e4:x.op=97
  ·simp[e4,beqF,zaF,hl,ht]
  by_cases e7:x.op=7
  ·simp[e7,beqF,zaF,hl,ht]
  by_cases e8:x.op=135
  ·simp[e8,beqF,zaF,hl,ht]
  by_cases e9:x.op=132
  ·simp[e9,beqF,zaF]
   refine zab hN ?_
   simp[hl,ht]
  simp[e0,e1,e2,e3,e4,e5,e6,e7,e8,e9,beqF,zaF,hl,ht]
end Go.Ev
/- An instruction changes nothing but what it sets, and hangs on what it zcX. -/
namespace Go.Ev
open Go Go.RowKit
variable {G:Tbl}
def part(s:St):Nat→Nat
 | 0=>s.a
 | 1=>s.x
 | i+2=>s.m.getD i 0
theorem zk8(s:St)(k v i:Nat)(hl:s.m.length=16):part (zbP s k v) i=if k<16∧i=k+2 then v else part s i:=by
 unfold zbP
 split
 ·rename_i hk
  match i with
  | 0=>simp[part]
  | 1=>simp[part]
  | i+2 =>
   simp only[part,List.getD,List.getElem?_set]
   by_cases e:k=i
   ·subst e; simp[hk,hl]
   ·simp[e,show¬i=k from fun h=>e h.symm]
 ·rename_i hk; simp[hk]
theorem znp(s:St)(k:Nat):zdi s k=if k<16 then part s (k+2) else 0:=rfl
theorem zpV(s:St)(x:In4)(d:Da)(hs:s.m.length=16)(hal:(aluT x.op).2.2=false)(i:Nat)(hi:i<18)(h:za5 x i=false):part (zaF s x d) i=part s i:=by
 unfold za5 at h
 have two:∀ v,(x.op=2∨x.op=3)→part (zbP s x.k v) i=part s i:=by
  intro v h23
  rw[zk8 s x.k v i hs]
  split
  ·rename_i hk
   exfalso
   rw[if_neg (by omega),if_neg (by omega)] at h
   simp only[decide_eq_false_iff_not] at h
   exact h ⟨h23,hk.2.symm⟩
  ·rfl
 match i,hi with
 | 0,_ =>
  simp[hal] at h
  unfold zaF
  repeat' split
  all_goals first
   | rfl
   | (exfalso; omega)
   | exact two _ (by omega)
 | 1,_ =>
  simp at h
  unfold zaF
  repeat' split
  all_goals first
   | rfl
   | (exfalso; omega)
   | exact two _ (by omega)
 | i+2,hi =>
  unfold zaF
  repeat' split
  all_goals first
   | rfl
   | exact two _ (by omega)
theorem zrC(s t:St)(x:In4)(d:Da)(hs:s.m.length=16)(ht:t.m.length=16)(h:∀ i,i<18→zaT x i=true→part s i=part t i)(i:Nat)(hi:i<18)(hal:(aluT x.op).2.2=false)(hset:za5 x i=true) :
  part (zaF s x d) i=part (zaF t x d) i:=by
 have u0:x.op∈[2,7,132,22]→s.a=t.a:=fun hm=>h 0 (by decide) (by simp only[zaT,hm]; simp)
 have u1:x.op∈[3,135]→s.x=t.x:=fun hm=>h 1 (by decide) (by simp only[zaT,hm]; simp)
 have uc:(x.op=96∨x.op=97)→zdi s x.k=zdi t x.k:=by
  intro hm
  rw[znp,znp]
  split
  ·rename_i hk
   exact h (x.k+2) (by omega) (by simp[zaT,hm])
  ·rfl
 unfold za5 at hset
 have two:∀ v,(x.op=2∨x.op=3)→part (zbP s x.k v) i=part (zbP t x.k v) i:=by
  intro v h23
  rw[zk8 s x.k v i hs,zk8 t x.k v i ht]
  split
  ·rfl
  ·rename_i hk
   exfalso
   by_cases i0:i=0
   ·subst i0; simp[hal] at hset; omega
   ·by_cases i1:i=1
    ·subst i1; simp at hset; omega
    ·rw[if_neg i0,if_neg i1] at hset
     simp only[decide_eq_true_eq] at hset
     apply hk; omega
 match i,hi with
 | 0,_ =>
  simp[hal] at hset
  rcases hset with e|e|e|e|e
  ·simp[zaF,e,part]
  ·simp[zaF,e,part]
  ·simp[zaF,e,part,uc (.inl e)]
  ·simp[zaF,e,part,u1 (by simp[e])]
  ·simp[zaF,e,part,u0 (by simp[e])]
 | 1,_ =>
  simp at hset
  rcases hset with e|e|e
  ·simp[zaF,e,part]
  ·simp[zaF,e,part,uc (.inr e)]
  ·simp[zaF,e,part,u0 (by simp[e])]
 | i+2,_ =>
  simp at hset
  rcases hset.1 with e|e
  ·have:=two s.a (.inl e)
   rw[u0 (by simp[e])] at this
   simp[zaF,e,u0 (by simp[e])]
   exact this
  ·have:=two s.x (.inr e)
   rw[u1 (by simp[e])] at this
   simp[zaF,e,u1 (by simp[e])]
   exact this
theorem zkL(s:St)(x:In4)(d:Da)(hs:s.m.length=16)(i:Nat)(hi:i<18)(h:za5 x i=false):part (zas s x d).1 i=part s i:=by
 unfold zas
 cases hal:(aluT x.op).2.2
 ·simp only[Bool.false_eq_true,if_false]; exact zpV s x d hs hal i hi h
 ·simp only[if_true]
  split
  ·match i,hi with
   | 0,_=>simp[za5,hal] at h
   | 1,_=>rfl
   | i+2,_=>rfl
  ·rfl
theorem zrD(s t:St)(x:In4)(d:Da)(hs:s.m.length=16)(ht:t.m.length=16)(h:∀ i,i<18→zaT x i=true→part s i=part t i) :
  (zas s x d).2=(zas t x d).2∧∀ i,i<18→za5 x i=true→part (zas s x d).1 i=part (zas t x d).1 i:=by
 unfold zas
 cases hal:(aluT x.op).2.2
 ·simp only[Bool.false_eq_true,if_false,true_and]
  exact fun i hi hset=>zrC s t x d hs ht h i hi hal hset
 ·have h0:s.a=t.a:=h 0 (by decide) (by simp[zaT,hal])
  have hb:aluB s x=aluB t x:=by
   unfold aluB
   split
   ·rename_i hx; exact h 1 (by decide) (by simp[zaT,byXB,hx])
   ·rfl
  have hr:aluR s x=aluR t x:=by unfold aluR; rw[h0,hb]
  simp only[if_true,hr,true_and]
  intro i hi hset
  split
  ·match i,hi with
   | 0,_=>rfl
   | 1,_ =>
    exfalso
    have key:∀ p∈[4,20,36,52,68,84,100,116,164,12,28,44,60,76,92,108,124,(172:Int)],decide (p∈[1,97,(7:Int)])=false:=by decide
    have:=key _ (zgL hal)
    simp only[za5] at hset
    simp at hset this
    omega
   | i+2,_ =>
    exfalso
    have key:∀ p∈[4,20,36,52,68,84,100,116,164,12,28,44,60,76,92,108,124,(172:Int)],¬p=2∧¬p=3:=by decide
    have:=key _ (zgL hal)
    simp[za5] at hset
    omega
  ·match i,hi with
   | 0,_=>exact h0
   | 1,_ =>
    exfalso
    have key:∀ p∈[4,20,36,52,68,84,100,116,164,12,28,44,60,76,92,108,124,(172:Int)],decide (p∈[1,97,(7:Int)])=false:=by decide
    have:=key _ (zgL hal)
    simp only[za5] at hset
    simp at hset this
    omega
   | i+2,_ =>
    exfalso
    have key:∀ p∈[4,20,36,52,68,84,100,116,164,12,28,44,60,76,92,108,124,(172:Int)],¬p=2∧¬p=3:=by decide
    have:=key _ (zgL hal)
    simp[za5] at hset
    omega
end Go.Ev
/- What is needed at each place: live.nexts, live.At, live.Behind. -/
namespace Go.Ev
open Go Go.RowKit
variable {G:Tbl}
def offs(x:In4):List Nat:=if zaz x.op then [] else if x.op=5 then [x.k] else if isBr x.op then [x.jt.toNat,x.jf.toNat] else [0]
def ndL(p:Nat):List In4→List Bool
 | []=>[]
 | x::f=>(zaT x p||((offs x).any (fun o=>(ndL p f).getD o false)&&!za5 x p))::ndL p f
def nd(f:List In4)(p:Nat):Bool:=(ndL p f).headD false
theorem zo4(p:Nat):∀(f:List In4) (i:Nat),ndL p (f.drop i)=(ndL p f).drop i
 | f,0=>rfl
 | [],i+1=>by simp[ndL]
 | x::f,i+1=>by simp only[List.drop_succ_cons,ndL]; exact zo4 p f i
theorem zxM(p:Nat)(f:List In4)(o:Nat):(ndL p f).getD o false=nd (f.drop o) p:=by
 unfold nd
 rw[zo4,List.headD_eq_head?_getD,List.head?_drop]; rfl
theorem zmA(x:In4)(f:List In4)(p:Nat):nd (x::f) p=(zaT x p||((offs x).any (fun o=>nd (f.drop o) p)&&!za5 x p)):=by
 simp only[nd,ndL,List.headD_cons]
 congr 2
 congr 1
 funext o
 exact zxM p f o
def wd(f:List In4):Nat:=zar (nd f) 18
def zcX:List In4→List Nat
 | []=>[]
 | x::f=>wd (x::f)::zcX f
theorem ze5:∀ f:List In4,(zcX f).length=f.length
 | []=>rfl
 | x::f=>by simp[zcX,ze5 f]
theorem zjK:∀(f:List In4) (i:Nat),i<f.length→(zcX f)[i]?=some (wd (f.drop i))
 | x::f,0,_=>rfl
 | x::f,i+1,h=>by
  simp only[zcX,List.getElem?_cons_succ,List.drop_succ_cons]
  exact zjK f i (by simpa using h)
def bh(g:List In4)(os:List Nat)(p:Nat):Bool:=os.any fun o=>nd (g.drop o) p
theorem zqw(a b:Nat→Bool):∀ n,zar a n ||| zar b n=zar (fun p=>a p||b p) n:=by
 intro n
 refine Nat.eq_of_testBit_eq fun i=>?_
 rw[Nat.testBit_or,zbI,zbI,zbI]
 cases decide (i<n)<;>simp
theorem ziQ:∀ n,zar (fun _=>false) n=0
 | 0=>rfl
 | n+1=>by simp[zar,ziQ n]
theorem zqx(g:List In4)(os:List Nat)(o:Nat):zar (bh g os) 18 ||| wd (g.drop o)=zar (bh g (os++[o])) 18:=by
 rw[wd,zqw]
 congr 1
 funext p
 simp[bh]
theorem zwu(x:In4)(g:List In4):zar (fun p=>zaT x p||(bh g (offs x) p&&!za5 x p)) 18=wd (x::g):=by
 unfold wd
 congr 1
 funext p
 rw[zmA]; rfl
theorem zsY(a b:Nat→Bool)(n:Nat)(hn:n≤32):zj7 .u32 ((zar a n:Nat):Int) ((zar b n:Nat):Int)=((zar (fun p=>a p&&!b p) n:Nat):Int):=by
 have ha:zar a n<2^32:=Nat.lt_of_lt_of_le (zbd a n) (Nat.pow_le_pow_right (by decide) hn)
 have hb:zar b n<2^32:=Nat.lt_of_lt_of_le (zbd b n) (Nat.pow_le_pow_right (by decide) hn)
 unfold zj7
 rw[zaX,zaX]
 have:(BitVec.ofNat 32 (zar a n) &&& ~~~BitVec.ofNat 32 (zar b n)).toNat=zar (fun p=>a p&&!b p) n:=by
  refine Nat.eq_of_testBit_eq fun i=>?_
  rw[BitVec.testBit_toNat,BitVec.getLsbD_and,BitVec.getLsbD_not,BitVec.getLsbD_ofNat,BitVec.getLsbD_ofNat,zbI,zbI,zbI]
  by_cases hi:i<n
  ·have:i<32:=by omega
   simp[hi,this]
  ·simp[hi]
 show IntKind.u32.wrap _=_
 rw[show IntKind.u32.bits=32 from rfl,this]
 exact zaM (Nat.lt_of_lt_of_le (zbd _ n) (Nat.pow_le_pow_right (by decide) hn))
theorem zvA(f:List In4):wd f<2^32:=Nat.lt_of_lt_of_le (zbd _ 18) (by decide)
def zdO(x:In4)(i:Nat):List Int:=(offs x).map fun(o:Nat)=>((i+1+o:Nat):Int)
theorem zo5[HasIns G][HasLive G](x:In4)(i:Nat)(hx:x.k<4294967296)(hb:x.brOk)(hi:i≤5000):FP G 170 [IV x,.int .i64 i] (.vs (ints .i64 (zdO x i)) .no):=by
 refine zak HasLive.h_live_nexts (Nat.le_of_ble_eq_true rfl) ?_
 have he:=zil (G:=G) x
 have hbr:=zb9 (G:=G) x
 have a1:addI .i64 (i:Int) 1=(i:Int)+1:=by rw[zaD]<;>omega
 simp[IV,In4.cs,a1] at he hbr ⊢
 refine zab he ?_
 cases h1:zaz x.op
 ·simp
  by_cases h5:x.op=5
  ·have a2:addI .i64 ((i:Int)+1) (x.k:Int)=((i+1+x.k:Nat):Int):=by rw[zaD]<;>omega
   have hb5:(x.op==5)=true:=by simp[h5]
   simp[hb5,zdJ x.k hx,a1,a2]
   simp[zdO,offs,h1,h5,ints,zaz]
  ·have hb5:(x.op==5)=false:=beqF h5
   simp[hb5]
   refine zab hbr ?_
   cases h2:isBr x.op
   ·simp[zdO,offs,h1,h5,h2,ints,a1]
   ·obtain⟨b1,b2,b3,b4⟩:=hb h2
    have a3:addI .i64 ((i:Int)+1) x.jt=((i+1+x.jt.toNat:Nat):Int):=by rw[zaD]<;>omega
    have a4:addI .i64 ((i:Int)+1) x.jf=((i+1+x.jf.toNat:Nat):Int):=by rw[zaD]<;>omega
    simp[a1,a3,a4]
    simp[zdO,offs,h1,h5,h2,ints]
 ·simp[zdO,offs,h1,ints]
theorem zo6:∀{f:List In4} {i:Nat} {x:In4},zaK f=true→f[i]?=some x→oneB x (f.length-1-i)=true
 | y::f,0,x,h,hg=>by
  simp only[List.getElem?_cons_zero,Option.some.injEq] at hg
  subst hg
  simp only[zaK,Bool.and_eq_true] at h
  simpa using h.1
 | y::f,i+1,x,h,hg=>by
  simp only[zaK,Bool.and_eq_true] at h
  have:=zo6 h.2 (by simpa using hg)
  rw[←this]
  congr 1
  simp only[List.length_cons]; omega
theorem zdC{f:List In4}{i:Nat}{x:In4}(h:zao f=true)(hg:f[i]?=some x):oneB x (f.length-1-i)=true∧(zaz x.op=false→i+1<f.length)∧f.length≤4096:=by
 simp only[zao,Bool.and_eq_true,decide_eq_true_eq] at h
 refine⟨zo6 h.1.2 hg,fun he=>?_,h.1.1⟩
 obtain⟨hi,hx⟩:=List.getElem?_eq_some_iff.1 hg
 by_cases hl:i+1<f.length
 ·exact hl
 ·have:i=f.length-1:=by omega
  have h2:=h.2
  have:f.getLast?=some x:=by rw[List.getLast?_eq_getElem?,←this]; exact hg
  simp only[endB,this] at h2
  rw[h2] at he; cases he
theorem zcs{f:List In4}{i:Nat}{x:In4}(h:zao f=true)(hg:f[i]?=some x){o:Nat}(ho:o∈offs x):i+1+o<f.length:=by
 obtain⟨h1,h2,h3⟩:=zdC h hg
 simp only[oneB,Bool.and_eq_true] at h1
 unfold offs at ho
 split at ho
 ·cases ho
 rename_i he
 have h2:=h2 (by simpa using he)
 split at ho
 ·rename_i h5
  simp only[List.mem_singleton] at ho
  subst ho
  have:=h1.1.2
  rw[if_pos h5,decide_eq_true_eq] at this
  omega
 split at ho
 ·rename_i hb
  have hbr:=zb1 h1.1.1.1 hb
  have:=h1.2
  rw[if_pos hb,decide_eq_true_eq] at this
  simp only[List.mem_cons,List.not_mem_nil,or_false] at ho
  rcases ho with rfl|rfl<;>omega
 ·simp only[List.mem_singleton] at ho
  omega
theorem zo7(x:In4):(offs x).length≤2:=by unfold offs; split; simp; split; simp; split<;>simp
def zbY(f:List In4)(k:Nat):List Nat:=List.replicate k 0++zcX (f.drop k)
theorem zh7(f:List In4)(k:Nat)(h:k≤f.length):(zbY f k).length=f.length:=by simp[zbY,ze5]; omega
theorem zpW(f:List In4)(k j:Nat)(h:k≤j)(hj:j<f.length):(zbY f k)[j]?=some (wd (f.drop j)):=by
 rw[zbY,List.getElem?_append_right (by simpa using h)]
 rw[List.length_replicate,zjK _ _ (by simp; omega),List.drop_drop]
 congr 3; omega
theorem zpX(f:List In4)(k:Nat)(hk:k<f.length):(zbY f (k+1)).set k (wd (f.drop k))=zbY f k:=by
 unfold zbY
 rw[List.replicate_succ',List.append_assoc,List.set_append_right _ _ (by simp)]
 rw[List.drop_eq_getElem_cons hk]
 simp only[List.length_replicate,Nat.sub_self,List.singleton_append,List.set_cons_zero]
 rfl
theorem zBh[HasIns G][HasCheck G][HasTells G][HasLive G](f:List In4)(hk:∀ x∈f,x.k<4294967296)(hs:zao f=true):FP G 171 [FL f] (.tup [.vs (nats .u32 (zcX f)) .no,.int .i64 0]):=by
 have hl:f.length≤4096:=by simp only[zao,Bool.and_eq_true,decide_eq_true_eq] at hs; exact hs.1.1
 have hm:maxLen=9223372036854775807:=by decide
 refine zak HasLive.h_live_At (Nat.le_of_ble_eq_true rfl) ?_
 have h1:=zgW (G:=G) f (by omega) hk
 simp
 refine zab h1 ?_
 have s1:subI .i64 (f.length:Int) 1=(f.length:Int)-1:=by rw[zcc]<;>omega
 simp(disch:=omega)[hs,FL,s1,leTn]
 refine W_up f.length (fun i=>[(0,FL f),(4,.rs 0 0 f.length 1),(5,.int .i64 ((f.length:Int)-1-i))]) (fun i=>[some (.cells (zac .u32 (zbY f (f.length-i))))]) (fun _=>True) ?_ ?_
 ·simp[zaa,zad,FL,zbY,zcX,zae]
 intro i hi _
 by_cases hlt:i<f.length
 ·have ht:∃ t,t=f.length-1-i:=⟨_,rfl⟩
  obtain⟨t,ht⟩:=ht
  have e1:(f.length:Int)-1-i=(t:Int):=by omega
  have e2:f.length-i=t+1:=by omega
  have e3:f.length-(i+1)=t:=by omega
  have htl:t<f.length:=by omega
  have hg:f[t]?=some f[t]:=List.getElem?_eq_getElem htl
  have hgg:=zbk htl
  have hxm:f[t]∈f:=List.getElem_mem htl
  have hdr:=List.drop_eq_getElem_cons htl
  generalize f[t]=x at hg hgg hxm hdr
  have hkk:=hk x hxm
  obtain⟨o1,_,_⟩:=zdC hs hg
  simp only[oneB,Bool.and_eq_true] at o1
  have hn:=zo5 (G:=G) x t hkk (zb1 o1.1.1.1) (by omega)
  have hu:=zvN (G:=G) x
  have hse:=zvO (G:=G) x
  have hcs:x.cs=[.int .i64 x.op,.int .i64 x.jt,.int .i64 x.jf,.int .u32 (x.k:Int)]:=rfl
  simp[IV,hcs] at hn hu hse
  simp(disch:=omega)[e1,e2,ltT,FL,hgg,hcs,leT]
  refine zab hn ?_
  simp
  refine W_up (offs x).length (fun j=>[(0,FL f),(4,.rs 0 0 f.length 1),(5,.int .i64 t),(6,.int .u32 (zar (bh (f.drop (t+1)) ((offs x).take j)) 18:Nat)),(27,.vs (ints .i64 (zdO x t)) .no),(28,.int .i64 (offs x).length),(29,.int .i64 j)])
   (fun _=>[some (.cells (zac .u32 (zbY f (t+1))))]) (fun _=>True) ?_ ?_
  ·have hb0:zar (bh (f.drop (t+1)) []) 18=0:=ziQ 18
   simp[zaa,zad,FL,hb0,zdO]
  intro j hj _
  have hol:=zo7 x
  by_cases hjl:j<(offs x).length
  ·have hgo:(offs x)[j]?=some (offs x)[j]:=List.getElem?_eq_getElem hjl
   have hom:(offs x)[j]∈offs x:=List.getElem_mem hjl
   have hof:=zcs hs hg hom
   have htk:(offs x).take (j+1)=(offs x).take j++[(offs x)[j]]:=by rw[List.take_add_one,hgo]; rfl
   have hng:(zdO x t)[j]?=some ((t+1+(offs x)[j]:Nat):Int):=by simp[zdO,hgo]
   generalize(offs x)[j]=o at hgo hom hof htk hng
   have hread:((zac .u32 (zbY f (t+1))).drop (t+1+o)).take 1=[.int .u32 (wd (f.drop (t+1+o)):Nat)]:=by
    have hcl:=zh7 f (t+1) (by omega)
    have hcg:=zpW f (t+1) (t+1+o) (by omega) hof
    rw[zaO _ _ _ (by omega)]
    rw[List.getElem?_eq_getElem (by omega),Option.some.injEq] at hcg
    rw[hcg]
   have hor:orI .u32 ((zar (bh (f.drop (t+1)) ((offs x).take j)) 18:Nat):Int) ((wd (f.drop (t+1+o)):Nat):Int)=((zar (bh (f.drop (t+1)) ((offs x).take (j+1))) 18:Nat):Int):=by
    rw[or32 (Nat.lt_of_lt_of_le (zbd _ 18) (by decide)) (zvA _),htk,←zqx,List.drop_drop]
   have hcl:=zh7 f (t+1) (by omega)
   simp(disch:=omega)[ltT,hng,hread,hcl,hor,leTn,FL,zaa,zad,zag,hjl,-Int.natCast_add]
  ·have hne:j=(offs x).length:=by omega
   subst hne
   rw[List.take_length]
   have hcl:=zh7 f (t+1) (by omega)
   have hwd:=zwu x (f.drop (t+1))
   rw[←hdr] at hwd
   have hset:=zpX f t htl
   have hlu:zhq x<2^32:=Nat.lt_of_lt_of_le (zbd _ 18) (by decide)
   have hor:orI .u32 ((zhq x:Nat):Int) (zj7 .u32 ((zar (bh (f.drop (t+1)) (offs x)) 18:Nat):Int) ((zgx x:Nat):Int))=((wd (f.drop t):Nat):Int):=by
    rw[zgx,zsY _ _ 18 (by decide),or32 hlu (Nat.lt_of_lt_of_le (zbd _ 18) (by decide)),zhq,zqw,hwd]
   have hcset:=zbc .u32 (zbY f (t+1)) t (wd (f.drop t)) (by omega)
   rw[hset] at hcset
   simp(disch:=omega)[FL,hgg,hcs,ltT,leT,-Int.natCast_add]
   refine zab hu ?_
   simp(disch:=omega)[FL,hgg,hcs,ltT,leT,-Int.natCast_add]
   refine zab hse ?_
   have s3:subI .i64 (t:Int) 1=(f.length:Int)-1-((i+1:Nat):Int):=by rw[zcc]<;>omega
   simp(disch:=omega)[hor,hcl,leTn,hcset,htl,s3,zaa,zad,hlt,e3,-Int.natCast_add]
 ·have hne:i=f.length:=by omega
  subst hne
  have hF:((f.length:Int)≤(f.length:Int)-1)=False:=eq_false (by omega)
  have hc:zbY f 0=zcX f:=by simp[zbY]
  have hch:zbh 1 f.length (zac .u32 (zcX f))=nats .u32 (zcX f):=by rw[←ze5 f]; exact zjC .u32 (zcX f)
  have hnl:=ze5 f
  simp[hF,hc,hnl,zah hnl,hch,leTn]
theorem zsZ[HasIns G][HasCheck G][HasTells G][HasLive G](f:List In4)(t:Nat)(x:In4)(hg:f[t]?=some x)(hk:∀ x∈f,x.k<4294967296)(hs:zao f=true) :
  FP G 172 [FL f,.int .i64 t] (.tup [.int .u32 (zar (bh (f.drop (t+1)) (offs x)) 18:Nat),.int .i64 0]):=by
 refine zak HasLive.h_live_Behind (Nat.le_of_ble_eq_true rfl) ?_
 obtain⟨htl,hx⟩:=List.getElem?_eq_some_iff.1 hg
 have hgg:=zbk htl
 have hxm:f[t]∈f:=List.getElem_mem htl
 rw[hx] at hgg hxm
 have hkk:=hk x hxm
 obtain⟨o1,_,hlen⟩:=zdC hs hg
 simp only[oneB,Bool.and_eq_true] at o1
 have hn:=zo5 (G:=G) x t hkk (zb1 o1.1.1.1) (by omega)
 have hcs:x.cs=[.int .i64 x.op,.int .i64 x.jt,.int .i64 x.jf,.int .u32 (x.k:Int)]:=rfl
 simp[IV,hcs] at hn
 simp
 refine zab (zBh f hk hs) ?_
 have hF:((f.length:Int)≤(t:Int))=False:=eq_false (by omega)
 simp(disch:=omega)[hF,ltF,FL,hgg,hcs]
 refine zab hn ?_
 simp
 refine W_up (offs x).length (fun j=>[(6,.vs (nats .u32 (zcX f)) .no),(8,.int .u32 (zar (bh (f.drop (t+1)) ((offs x).take j)) 18:Nat)),(33,.vs (ints .i64 (zdO x t)) .no),(34,.int .i64 (offs x).length),(35,.int .i64 j)])
  (fun _=>[]) (fun _=>True) ?_ ?_
 ·have hb0:zar (bh (f.drop (t+1)) []) 18=0:=ziQ 18
  simp[zaa,zad,FL,hb0,zdO]
 intro j hj _
 have hol:=zo7 x
 by_cases hjl:j<(offs x).length
 ·have hgo:(offs x)[j]?=some (offs x)[j]:=List.getElem?_eq_getElem hjl
  have hom:(offs x)[j]∈offs x:=List.getElem_mem hjl
  have hof:=zcs hs hg hom
  have htk:(offs x).take (j+1)=(offs x).take j++[(offs x)[j]]:=by rw[List.take_add_one,hgo]; rfl
  have hng:(zdO x t)[j]?=some ((t+1+(offs x)[j]:Nat):Int):=by simp[zdO,hgo]
  generalize(offs x)[j]=o at hgo hom hof htk hng
  have hread:=zjK f (t+1+o) hof
  have hor:orI .u32 ((zar (bh (f.drop (t+1)) ((offs x).take j)) 18:Nat):Int) ((wd (f.drop (t+1+o)):Nat):Int)=((zar (bh (f.drop (t+1)) ((offs x).take (j+1))) 18:Nat):Int):=by
   rw[or32 (Nat.lt_of_lt_of_le (zbd _ 18) (by decide)) (zvA _),htk,←zqx,List.drop_drop]
  simp(disch:=omega)[ltT,hng,hread,hor,leTn,FL,zaa,zad,zag,hjl,-Int.natCast_add]
 ·have hne:j=(offs x).length:=by omega
  subst hne
  simp
end Go.Ev
/- The law LiveLast. -/
namespace Go.Ev
open Go Go.RowKit
variable {G:Tbl}
theorem zk9{f:List In4}(h:zao f=true):f≠[]:=by
 rintro rfl; simp[zao,endB] at h
end Go.Ev
/- What hurdleref07 says is needed. -/
namespace Go.Ev
open Go Go.RowKit
variable {G:Tbl}
def cb(l:List Bool):List V:=l.map V.bool
@[simp] theorem zBE (l:List Bool):(cb l).length=l.length:=by simp[cb]
@[simp] theorem cb_cl (n:Nat) (l:List Bool):clL n (cb l)=cb l:=by
 rw[zaw]; simp[cb,Function.comp_def]
theorem zxN(l:List Bool)(i:Nat)(b:Bool)(h:l[i]?=some b):((cb l).drop i).take 1=[.bool b]:=by
 obtain⟨hl,rfl⟩:=List.getElem?_eq_some_iff.1 h
 rw[cb,←List.map_drop,List.drop_eq_getElem_cons hl]
 rfl
theorem zlR(l:List Bool)(i:Nat)(x:Bool)(h:i<l.length):(cb l).take i++(V.bool x::(cb l).drop (i+1))=cb (l.set i x):=by
 rw[cb,←List.map_drop,←List.map_take,List.set_eq_take_append_cons_drop,if_pos h]
 simp[cb]
@[simp] theorem zB7 (l:List Bool):(cb l).all V.pure=true:=by simp[cb]
@[simp high] theorem zBF (base:Nat) (e:Env) (H:Heap) (s bytes:Nat) (n:X):ev1 base e H (.mksl s bytes [.bool false] n)=(match n.ev e with
  | .int _ m=>if zaL H (base+s)=true∧0≤m∧m.toNat*bytes≤140737488355328 then some (.rs (base+s) 0 m.toNat 1,H.set (base+s) (some (.cells (cb (List.replicate m.toNat false))))) else none
  | _=>none):=by
 have h:∀ m:Nat,(List.replicate m [V.bool false]).flatten=cb (List.replicate m false):=fun m=>by
  induction m with
  | zero=>rfl
  | succ m ih=>rw[List.replicate_succ,List.flatten_cons,ih]; simp[cb,List.replicate_succ]
 rw[ev1.eq_27]
 cases n.ev e<;>simp only[h,List.length_singleton]
theorem zhm{f:List In4}{i:Nat}{x:In4}(h:zao f=true)(hg:f[i]?=some x):x.brOk:=by
 have:=(zdC h hg).1
 simp only[oneB,Bool.and_eq_true] at this
 exact zb1 this.1.1.1
end Go.Ev
/- Runs, by hurdleref06; and the law LiveRuns. -/
namespace Go.Ev
open Go Go.RowKit
variable {G:Tbl}
def goes(s:St)(x:In4):Nat:=if x.op=5 then x.k else if isBr x.op then(if takesB s x then x.jt.toNat else x.jf.toNat) else 0
def run(d:Da)(g:List In4)(s:St):Nat×Nat :=
 match g with
 | []=>(0,0)
 | x::g=>if x.op=6 then(x.k,1) else if x.op=22 then(s.a,1) else if(zas s x d).2 then((run d (g.drop (goes s x)) (zas s x d).1).1,(run d (g.drop (goes s x)) (zas s x d).1).2+1) else(0,1)
termination_by g.length
decreasing_by all_goals (simp only[List.length_drop,List.length_cons]; omega)
theorem zcY(d:Da)(x:In4)(g:List In4)(s:St):run d (x::g) s=if x.op=6 then(x.k,1) else if x.op=22 then(s.a,1) else if(zas s x d).2 then((run d (g.drop (goes s x)) (zas s x d).1).1,(run d (g.drop (goes s x)) (zas s x d).1).2+1) else(0,1):=by
 rw[run]
theorem zhD{x:In4}(h:zaz x.op=false)(s:St):goes s x∈offs x:=by
 unfold goes offs
 rw[h]
 simp only[Bool.false_eq_true,if_false]
 by_cases h5:x.op=5
 ·simp[h5]
 ·rw[if_neg h5,if_neg h5]
  split
  ·split<;>simp
  ·simp
theorem zs0(d:Da):∀(n:Nat) (g:List In4) (s:St),g.length≤n→(run d g s).2≤g.length
 | _,[],s,_=>by rw[run]; simp
 | 0,x::g,s,h=>by simp at h
 | n+1,x::g,s,h=>by
  rw[zcY]
  have:=zs0 d n (g.drop (goes s x)) (zas s x d).1 (by simp at h ⊢; omega)
  rw[List.length_drop] at this
  rw[List.length_cons]
  split
  ·simp
  split
  ·simp
  split
  ·simp only; omega
  ·simp
theorem zpY{s t:St}{x:In4}(h:∀ i,i<18→zaT x i=true→part s i=part t i):takesB s x=takesB t x:=by
 cases hb:isBr x.op
 ·rw[zit hb,zit hb]
 ·have h0:=h 0 (by decide) (by simp[zaT,hb])
  by_cases hx:x.op∈[29,45,61,77]
  ·have h1:=h 1 (by decide) (by simp only[zaT,byXB,hx]; simp)
   simp only[part] at h0 h1
   simp only[takesB,h0,h1]
  ·simp only[part] at h0
   simp only[takesB,h0,hx,if_false]
theorem znq(d:Da)(hd:d.ok):∀(n:Nat) (g:List In4) (s t:St),g.length≤n→s.ok→t.ok→(∀ x∈g,x.k<4294967296)→(∀ p,p<18→nd g p=true→part s p=part t p)→run d g s=run d g t
 | _,[],s,t,_,_,_,_,_=>by rw[run,run]
 | 0,x::g,s,t,h,_,_,_,_=>by simp at h
 | n+1,x::g,s,t,h,hs,ht,hk,hp=>by
  have h1:=hk x (by simp)
  have hu:∀ i,i<18→zaT x i=true→part s i=part t i:=fun i hi hu=>hp i hi (by rw[zmA,hu]; rfl)
  obtain⟨e1,e2⟩:=zrD s t x d hs.2.2.1 ht.2.2.1 hu
  rw[zcY,zcY]
  by_cases h6:x.op=6
  ·rw[if_pos h6,if_pos h6]
  rw[if_neg h6,if_neg h6]
  by_cases h22:x.op=22
  ·rw[if_pos h22,if_pos h22]
   have:=hu 0 (by decide) (by simp[zaT,h22])
   simp only[part] at this
   rw[this]
  rw[if_neg h22,if_neg h22]
  have he:zaz x.op=false:=by simp[zaz,h6,h22]
  have hg:goes s x=goes t x:=by unfold goes; rw[zpY hu]
  have ho:=zhD he t
  have hrc:=znq d hd n (g.drop (goes t x)) (zas s x d).1 (zas t x d).1 (by simp at h ⊢; omega) (zdp hs h1 hd) (zdp ht h1 hd) (fun y hy=>hk y (by simp[List.mem_of_mem_drop hy])) fun p hp18 hn=>by
   cases hse:za5 x p
   ·rw[zkL s x d hs.2.2.1 p hp18 hse,zkL t x d ht.2.2.1 p hp18 hse]
    refine hp p hp18 ?_
    rw[zmA,hse]
    have:(offs x).any (fun o=>nd (g.drop o) p)=true:=List.any_eq_true.2 ⟨_,ho,hn⟩
    rw[this]; simp
   ·exact e2 p hp18 hse
  rw[hg,e1,hrc]
theorem zqy[HasR2 G][hR1:HasR1 G][HasR1n G][HasR4 G][HasR6s G][HasR6 G](f:List In4)(d:Da)(hk:∀ x∈f,x.k<4294967296)(hs:zao f=true)(hd:d.ok) :
  ∀(n t:Nat) (s:St),f.length-t≤n→t<f.length→s.ok→FP G 192 [FL f,SV s,.int .i64 t,DV d] (.tup [.int .u32 ((run d (f.drop t) s).1:Nat),.int .i64 ((run d (f.drop t) s).2:Nat)])
 | 0,t,s,h,ht,_=>by omega
 | n+1,t,s,h,ht,hso=>by
  refine zak HasR6.h_hurdleref06_From (Nat.le_of_ble_eq_true rfl) ?_
  have hg:f[t]?=some f[t]:=List.getElem?_eq_getElem ht
  have hgg:=zbk ht
  have hxm:f[t]∈f:=List.getElem_mem ht
  have hdr:=List.drop_eq_getElem_cons ht
  obtain⟨x,hfx⟩:∃ x,x=f[t]:=⟨_,rfl⟩
  rw[←hfx] at hg hgg hxm hdr
  have hfx:=hfx.symm
  have hkk:=hk x hxm
  obtain⟨o1,o2,hlen⟩:=zdC hs hg
  have hbo:=zhm hs hg
  have hcs:x.cs=[.int .i64 x.op,.int .i64 x.jt,.int .i64 x.jf,.int .u32 (x.k:Int)]:=rfl
  have hbr:=ziZ (G:=G) x
  have hta:=zr4 (G:=G) s x hso hkk
  have hst:=zuQ (G:=G) s x d hso hkk hd
  have hl:=hso.2.2.1
  have htk:=zah (k:=.u32) hl
  have h6:=hd.2.2.2.1
  have ht6:=zah (k:=.u64) h6
  have a1:addI .i64 (t:Int) 1=((t+1:Nat):Int):=zag (by omega)
  have hc:=zdJ x.k hkk
  have hso2:=zdp hso hkk hd
  have hl2:=hso2.2.2.1
  have htk2:=zah (k:=.u32) hl2
  rw[hdr,zcY]
  simp[SV,IV,DV,FL,hcs,St.cs,Da.cs] at hbr hta hst ⊢
  by_cases e6:x.op=6
  ·simp(disch:=omega)[ltT,hgg,hfx,hcs,e6]
  have b6:(x.op==6)=false:=beqF e6
  by_cases e22:x.op=22
  ·simp(disch:=omega)[ltT,hgg,hfx,hcs,b6,e6,e22]
  have b22:(x.op==22)=false:=beqF e22
  have he:zaz x.op=false:=by simp[zaz,e6,e22]
  have hgo:=zcs hs hg (zhD he s)
  have hrec:=zqy f d hk hs hd n (t+1+goes s x) (zas s x d).1 (by omega) hgo hso2
  have hrl:=zs0 d _ (f.drop (t+1+goes s x)) (zas s x d).1 (Nat.le_refl _)
  rw[List.length_drop] at hrl
  simp[SV,IV,DV,FL,hcs,St.cs,Da.cs,-Int.natCast_add] at hrec
  rw[show f.drop (t+1+goes s x)=(f.drop (t+1)).drop (goes s x) by rw[List.drop_drop]] at hrec hrl
  have a2:addI .i64 ((run d ((f.drop (t+1)).drop (goes s x)) (zas s x d).1).2:Int) 1=(((run d ((f.drop (t+1)).drop (goes s x)) (zas s x d).1).2+1:Nat):Int):=zag (by omega)
  simp(disch:=omega)[ltT,hgg,hfx,hcs,b6,b22,e6,e22,a1,-Int.natCast_add]
  have c1:∀ n:Nat,(V.int .u32 (n:Int)).cl 0=.int .u32 n:=fun _=>rfl
  by_cases h5:x.op=5
  ·have b5:(x.op==5)=true:=by simp[h5]
   have hnb:isBr x.op=false:=by rw[h5]; decide
   have hgg5:goes s x=x.k:=by simp[goes,h5]
   have a3:addI .i64 ((t+1:Nat):Int) (x.k:Int)=((t+1+x.k:Nat):Int):=addN (by omega)
   rw[hnb] at hbr
   rw[hgg5] at hrec a2 ⊢
   simp(disch:=omega)[b5,hc,a3,-Int.natCast_add]
   refine zab hbr ?_
   simp(disch:=omega)[hl,htk,h6,ht6,-Int.natCast_add]
   refine zab hst ?_
   cases hok:(zas s x d).2
   ·simp[hl2,htk2]
   ·simp(disch:=omega)[hl2,htk2,h6,ht6,-Int.natCast_add]
    refine zab hrec ?_
    rw[List.drop_drop] at a2
    simp[a2,-Int.natCast_add]
  have b5:(x.op==5)=false:=beqF h5
  simp(disch:=omega)[b5,-Int.natCast_add]
  refine zab hbr ?_
  cases hb:isBr x.op
  ·have hgg5:goes s x=0:=by simp[goes,h5,hb]
   rw[hgg5] at hrec a2 ⊢
   simp(disch:=omega)[hl,htk,h6,ht6,-Int.natCast_add]
   refine zab hst ?_
   cases hok:(zas s x d).2
   ·simp[hl2,htk2]
   ·simp(disch:=omega)[hl2,htk2,h6,ht6,-Int.natCast_add]
    refine zab hrec ?_
    simp at a2 ⊢
    simp[a2]
  obtain⟨b1,b2,b3,b4⟩:=hbo hb
  simp(disch:=omega)[hl,htk,-Int.natCast_add]
  refine zab hta ?_
  cases htb:takesB s x
  ·have hgg5:goes s x=x.jf.toNat:=by simp[goes,h5,hb,htb]
   have a3:addI .i64 ((t+1:Nat):Int) x.jf=((t+1+x.jf.toNat:Nat):Int):=by rw[zaD]<;>omega
   rw[hgg5] at hrec a2 ⊢
   simp(disch:=omega)[hl,htk,h6,ht6,a3,-Int.natCast_add]
   refine zab hst ?_
   cases hok:(zas s x d).2
   ·simp[hl2,htk2]
   ·simp(disch:=omega)[hl2,htk2,h6,ht6,-Int.natCast_add]
    refine zab hrec ?_
    rw[List.drop_drop] at a2
    simp[a2,-Int.natCast_add]
  ·have hgg5:goes s x=x.jt.toNat:=by simp[goes,h5,hb,htb]
   have a3:addI .i64 ((t+1:Nat):Int) x.jt=((t+1+x.jt.toNat:Nat):Int):=by rw[zaD]<;>omega
   rw[hgg5] at hrec a2 ⊢
   simp(disch:=omega)[hl,htk,h6,ht6,a3,-Int.natCast_add]
   refine zab hst ?_
   cases hok:(zas s x d).2
   ·simp[hl2,htk2]
   ·simp(disch:=omega)[hl2,htk2,h6,ht6,-Int.natCast_add]
    refine zab hrec ?_
    rw[List.drop_drop] at a2
    simp[a2,-Int.natCast_add]
end Go.Ev
/- Records with another word; and branches whose ways are swapped. -/
namespace Go.Ev
open Go Go.RowKit
variable {G:Tbl}
def two(w:List Nat)(i:Nat):Nat:=w.getD i 0+w.getD (i+1) 0*4294967296
def ofW(w:List Nat):Da:=⟨w.getD 0 0,w.getD 1 0,two w 2,(List.range 6).map fun i=>two w (4+2*i)⟩
def zlS(d:Da)(at' v:Nat):Da:=if at'%4=0∧at'<64 then ofW ((zaA d).set (at'/4) v) else d
theorem zuR{w:List Nat}(hl:w.length=16)(hw:∀ x∈w,x<4294967296):zaA (ofW w)=w:=by
 match w,hl with
 | [a0,a1,a2,a3,a4,a5,a6,a7,a8,a9,a10,a11,a12,a13,a14,a15],_ =>
  simp only[List.mem_cons,List.not_mem_nil,or_false,forall_eq_or_imp,forall_eq] at hw
  simp only[zaA,ofW,two,lo,hi,List.range_succ,List.range_zero,List.nil_append,List.map_append,List.map_cons,List.map_nil,List.cons_append,List.flatMap_cons,List.flatMap_nil,List.getD_cons_zero,List.getD_cons_succ,Nat.mul_zero,Nat.mul_one,Nat.reduceMul,Nat.reduceAdd,List.cons.injEq,and_true,true_and]
  and_intros<;>omega
theorem zjL{w:List Nat}(hl:w.length=16)(hw:∀ x∈w,x<4294967296):(ofW w).ok:=by
 have hg:∀ i,w.getD i 0<4294967296:=by
  intro i
  rw[List.getD]
  cases h:w[i]? with
  | none=>decide
  | some z=>exact hw z (List.mem_of_getElem? h)
 have h2:∀ i,two w i<18446744073709551616:=fun i=>by
  have:=hg i; have:=hg (i+1); unfold two; omega
 refine⟨hg 0,hg 1,h2 2,by simp[ofW],fun x hx=>?_⟩
 simp only[ofW,List.mem_map] at hx
 obtain⟨i,_,rfl⟩:=hx
 exact h2 _
theorem zxO{l:List Nat}{i v n:Nat}(h:∀ x∈l,x<n)(hv:v<n):∀ x∈l.set i v,x<n:=fun x hx=>by
 rcases List.mem_or_eq_of_mem_set hx with h1|h1
 ·exact h x h1
 ·rw[h1]; exact hv
end Go.Ev
/- What run.Run and hurdleref06.Run compute. -/
namespace Go.Ev
open Go Go.RowKit
variable {G:Tbl}
def St0:St:=⟨0,0,zae 16⟩
theorem zs1:St0.ok:=⟨by decide,by decide,by simp[St0],fun w hw=>by
 simp only[St0,zae,List.mem_replicate] at hw
 omega⟩
theorem zxP:St0.cs=zac .u32 (zae 18):=rfl
theorem zqz[HasR2 G][hR1:HasR1 G][HasR1n G][HasR4 G][HasR6s G][HasR6 G][HasR6r G](f:List In4)(d:Da)(hk:∀ x∈f,x.k<4294967296)(hs:zao f=true)(hd:d.ok) :
  FP G 234 [FL f,DV d] (.tup [.int .u32 ((run d f St0).1:Nat),.int .i64 ((run d f St0).2:Nat)]):=by
 refine zak HasR6r.h_hurdleref06_Run (Nat.le_of_ble_eq_true rfl) ?_
 have h0:0<f.length:=by
  have:=zk9 hs
  cases f with
  | nil=>exact absurd rfl this
  | cons=>simp
 have hf:=zqy (G:=G) f d hk hs hd _ 0 St0 (Nat.le_refl _) h0 zs1
 have h6:=hd.2.2.2.1
 have ht6:=zah (k:=.u64) h6
 simp[SV,zxP,FL,DV,Da.cs] at hf
 simp[FL,DV,Da.cs,h6,ht6]
 refine zab hf ?_
 simp
end Go.Ev
/- What data.With computes. -/
namespace Go.Ev
open Go Go.RowKit
variable {G:Tbl}
theorem zBi(a b c:V)(l:List V)(n:Nat):(a::b::c::l).take (3+n)=a::b::c::l.take n:=by rw[Nat.add_comm]; rfl
theorem drop3(a b c:V)(l:List V)(n:Nat):(a::b::c::l).drop (3+n)=l.drop n:=by rw[Nat.add_comm]; rfl
theorem zxQ(a b c:V)(l:List V)(n:Nat):(a::b::c::l).drop (3+n+1)=l.drop (n+1):=by rw[show 3+n+1=(n+1)+3 by omega]; rfl
theorem zxR(b c:V)(l:List V)(n:Nat):(b::c::l).drop (3+n)=l.drop (n+1):=by rw[show 3+n=(n+1)+2 by omega]; rfl
theorem zs2{w:List Nat}(hw:∀ x∈w,x<4294967296)(i:Nat):orI .u64 ((w.getD i 0:Nat):Int) (shlI .u64 ((w.getD (i+1) 0:Nat):Int) 32)=((two w i:Nat):Int):=by
 have hg:∀ i,w.getD i 0<4294967296:=by
  intro i
  rw[List.getD]
  cases h:w[i]? with
  | none=>decide
  | some z=>exact hw z (List.mem_of_getElem? h)
 exact zr6 _ _ (hg i) (hg (i+1))
def ZD:List V:=[.int .u32 0,.int .u32 0,.int .u64 0,.int .u64 0,.int .u64 0,.int .u64 0,.int .u64 0,.int .u64 0,.int .u64 0]
def HG(w:List Nat)(n:Nat)(a b c:Nat)(l:List Nat):Heap:=[some (.cells (zac .u32 w)),some (.cells ZD),some (.cells [.int .i64 n]),some (.cells (.int .u32 (a:Int)::.int .u32 (b:Int)::.int .u64 (c:Int)::zac .u64 l))]
theorem zxS[HasWith G](w:List Nat)(n a b c:Nat)(l:List Nat)(hl:w.length=16)(hw:∀ x∈w,x<4294967296)(hn:n+1<16) :
  Big G (.F 231 [.ptr 0 0,.ptr 2 0] (HG w n a b c l) (.int .u64 (two w n:Nat)) (HG w (n+2) a b c l)):=by
 have c1:=zaO .u32 w n (by omega)
 have c2:=zaO .u32 w (n+1) (by omega)
 have d1:w.getD n 0=w[n]:=by simp[List.getD,List.getElem?_eq_getElem (show n<w.length by omega)]
 have d2:w.getD (n+1) 0=w[n+1]:=by simp[List.getD,List.getElem?_eq_getElem (show n+1<w.length by omega)]
 have ho:=zs2 hw n
 rw[d1,d2] at ho
 have l1:=hw _ (List.getElem_mem (show n<w.length by omega))
 have l2:=hw _ (List.getElem_mem (show n+1<w.length by omega))
 have v1:=zlw w[n] (by omega)
 have v2:=zlw w[n+1] (by omega)
 have e1:addI .i64 (n:Int) 1=((n+1:Nat):Int):=zag (by omega)
 have e2:addI .i64 (n:Int) 2=((n+2:Nat):Int):=addL (n:=2) (by omega)
 have i1:((n:Int)<16)=True:=ltT (by omega)
 have i2:(((n+1:Nat):Int)<16)=True:=ltT (by omega)
 have j1:(n+1≤16)=True:=leTn (by omega)
 have j2:(n+1+1≤16)=True:=leTn (by omega)
 have j3:(n≤14)=True:=leTn (by omega)
 refine F_of HasWith.h_data_of_1 (Nat.le_of_ble_eq_true rfl) ?_
 simp[HG,ZD,e1,e2,i1,i2,j1,j2,j3,c1,c2,v1,v2,ho,hl,-Int.natCast_add]
def zdk(w:List Nat)(i:Nat):List Nat:=(List.range 6).map fun j=>if j<i then two w (4+2*j) else 0
theorem zjM(w:List Nat)(i:Nat):(zdk w i).length=6:=by simp[zdk]
theorem zrE(w:List Nat){i:Nat}(hi:i<6):(zdk w i).set i (two w (4+2*i))=zdk w (i+1):=by
 apply List.ext_getElem?
 intro j
 rw[List.getElem?_set,zjM]
 by_cases h:i=j
 ·subst h
  simp[zdk,hi]
 ·rw[if_neg h]
  by_cases hj:j<6
  ·simp only[zdk,List.getElem?_map,List.getElem?_range hj,Option.map_some]
   by_cases h2:j<i
   ·simp[h2,show j<i+1 by omega]
   ·simp[h2,show¬j<i+1 by omega]
  ·simp[zdk,hj]
theorem zwv(w:List Nat):zdk w 6=(ofW w).args:=by
 simp only[zdk,ofW]
 apply List.map_congr_left
 intro j hj
 simp[List.mem_range.1 hj]
theorem zww(w:List Nat):zdk w 0=zae 6:=by
 simp[zdk,zae,List.range_succ]
theorem zxT[HasWith G](w:List Nat)(hl:w.length=16)(hw:∀ x∈w,x<4294967296):FP G 232 [.agg (zac .u32 w)] (DV (ofW w)):=by
 refine zak HasWith.h_data_of (Nat.le_of_ble_eq_true rfl) ?_
 have htw:=zah (k:=.u32) hl
 have c0:(zac .u32 w).take 1=[.int .u32 (w[0]:Nat)]:=by have:=zaO .u32 w 0 (by omega); rwa[List.drop_zero] at this
 have c1:(zac .u32 w).tail.take 1=[.int .u32 (w[1]:Nat)]:=by have:=zaO .u32 w 1 (by omega); rwa[List.drop_one] at this
 have c2:=zaO .u32 w 2 (by omega)
 have c3:=zaO .u32 w 3 (by omega)
 have d:∀ i (h:i<16),w.getD i 0=w[i]:=fun i h=>by simp[List.getD,List.getElem?_eq_getElem (show i<w.length by omega)]
 have ho:=zs2 hw 2
 rw[d 2 (by omega),d 3 (by omega)] at ho
 have l2:=hw _ (List.getElem_mem (show 2<w.length by omega))
 have l3:=hw _ (List.getElem_mem (show 3<w.length by omega))
 have v2:=zlw w[2] (by omega)
 have v3:=zlw w[3] (by omega)
 simp[c0,c1,c2,c3,v2,v3,ho,hl,htw]
 refine W_up 6 (fun i=>[(2,.ptr 1 0),(4,.fn 231 [.ptr 0 0,.ptr 2 0]),(5,.ptr 3 0),(21,.int .i64 i)])
  (fun i=>HG w (4+2*i) w[0] w[1] (two w 2) (zdk w i)) (fun _=>True) ?_ ?_
 ·have hz6:zac .u64 (zae 6)=[.int .u64 0,.int .u64 0,.int .u64 0,.int .u64 0,.int .u64 0,.int .u64 0]:=rfl
  simp[zaa,zad,HG,ZD,zww,hz6,hl,htw]
 intro i hi _
 by_cases hlt:i<6
 ·have hg:=zxS (G:=G) w (4+2*i) w[0] w[1] (two w 2) (zdk w i) hl hw (by omega)
  have hfl:=zjM w i
  have cs:=zbc .u64 (zdk w i) i (two w (4+2*i)) (by omega)
  rw[zrE w hlt] at cs
  simp[HG,ZD,-Int.natCast_add,-Int.natCast_mul] at hg
  simp(disch:=omega)[ltT,leTn,HG,ZD,-Int.natCast_add,-Int.natCast_mul]
  refine zaI hg (by simp) ?_
  simp(disch:=omega)[zad,zBi,drop3,zxQ,zxR,hfl,cs,ltT,leTn,zag,hlt,zaa,show 4+2*(i+1)=4+2*i+2 from by omega,-Int.natCast_add,-Int.natCast_mul]
 ·have hne:i=6:=by omega
  subst hne
  have h6:=zwv w
  have h6l:=zjM w 6
  have ht6:=zah (k:=.u64) h6l
  have e0:=d 0 (by omega)
  have e1:=d 1 (by omega)
  simp[HG,ZD,DV,Da.cs,h6l,ht6]
  rw[←h6]
  simp[ofW,hl]
theorem zwx[HasData G][HasWith G](d:Da)(n v:Nat)(hd:d.ok)(hn:n<4294967296)(hv:v<4294967296):FP G 233 [DV d,.int .u32 n,.int .u32 v] (DV (zlS d n v)):=by
 refine zak HasWith.h_data_With (Nat.le_of_ble_eq_true rfl) ?_
 have hw:=zop (G:=G) d hd
 have ht:=zah (k:=.u64) hd.2.2.2.1
 have h6:=hd.2.2.2.1
 simp[DV,Da.cs] at hw ⊢
 refine zab (zoq n hn) ?_
 by_cases h:n%4=0∧n<64
 ·have hq:quoI .u32 (n:Int) 4=((n/4:Nat):Int):=zrq (b:=4) hn (by decide)
  have hl:=zbt h6
  have htw:=zah (k:=.u32) hl
  have cs:=zbc .u32 (zaA d) (n/4) v (by omega)
  have hl2:((zaA d).set (n/4) v).length=16:=by rw[List.length_set]; exact hl
  have htw2:=zah (k:=.u32) hl2
  have hof:=zxT (G:=G) ((zaA d).set (n/4) v) hl2 (zxO (zjg hd) hv)
  have ho6:(ofW ((zaA d).set (n/4) v)).args.length=6:=by simp[ofW]
  have ht2:=zah (k:=.u64) ho6
  simp[DV,Da.cs] at hof
  simp[h,h6,ht,zlS]
  refine zab hw ?_
  simp(disch:=omega)[hq,ltT,leTn,hl,htw,cs,hl2,htw2,-Int.natCast_ediv]
  refine zab hof ?_
  simp[ho6,ht2]
 ·simp[h,zlS,h6,ht]
end Go.Ev
/- Windows that are run, and their variables' numbers: plain. -/
namespace Go.Ev
open Go Go.RowKit
variable {G:Tbl}
def runW(d:Da):List In4→St→St×Nat
 | [],s=>(s,0)
 | x::w,s=>if(zas s x d).2 then((runW d w (zas s x d).1).1,(runW d w (zas s x d).1).2+1) else(s,0)
theorem zeB(d:Da):∀(w:List In4) (s:St),(runW d w s).2≤w.length
 | [],s=>Nat.zero_le _
 | x::w,s=>by
  have:=zeB d w (zas s x d).1
  simp only[runW,List.length_cons]
  split
  ·simp only; omega
  ·simp
theorem zeC{d:Da}(hd:d.ok):∀(w:List In4) (s:St),s.ok→(∀ x∈w,x.k<4294967296)→(runW d w s).1.ok
 | [],s,hs,_=>hs
 | x::w,s,hs,hk=>by
  have:=zeC hd w (zas s x d).1 (zdp hs (hk x (by simp)) hd) (fun y hy=>hk y (by simp[hy]))
  simp only[runW]
  split
  ·exact this
  ·exact hs
def asgL(s:St)(d:Da):List Nat:=s.a::s.x::(s.m++zaA d)
def stO(v:List Nat):St:=⟨v.getD 0 0,v.getD 1 0,(v.drop 2).take 16⟩
theorem zla{s:St}{d:Da}(hs:s.ok)(hd:d.ok):(asgL s d).length=34:=by
 simp[asgL,hs.2.2.1,zbt hd.2.2.2.1]
theorem zqA{s:St}{d:Da}(hs:s.ok)(hd:d.ok):∀ x∈asgL s d,x<4294967296:=by
 intro x hx
 simp only[asgL,List.mem_cons,List.mem_append] at hx
 rcases hx with rfl|rfl|hx|hx
 ·exact hs.1
 ·exact hs.2.1
 ·exact hs.2.2.2 x hx
 ·exact zjg hd x hx
def wAt(v:List Nat)(i:Nat):List Nat:=(v.drop 18).take i++zae (16-i)
theorem zkm{v:List Nat}(hl:v.length=34){i:Nat}(hi:i≤16):(wAt v i).length=16:=by
 simp[wAt,hl]; omega
theorem zo8{v:List Nat}(hv:∀ x∈v,x<4294967296)(i:Nat):∀ x∈wAt v i,x<4294967296:=by
 intro x hx
 simp only[wAt,List.mem_append,zae,List.mem_replicate] at hx
 rcases hx with hx|hx
 ·exact hv x (List.mem_of_mem_drop (List.mem_of_mem_take hx))
 ·omega
theorem zwy{v:List Nat}(hl:v.length=34){i:Nat}(hi:i<16):(wAt v i).set i (v[18+i]'(by omega))=wAt v (i+1):=by
 apply List.ext_getElem?
 intro j
 have hg:∀ i,i≤16→∀ j,(wAt v i)[j]?=if j<i then v[18+j]? else if j<16 then some 0 else none:=by
  intro i hi j
  rw[wAt,List.getElem?_append,List.length_take,List.length_drop,hl,List.getElem?_take,List.getElem?_drop]
  by_cases h1:j<i
  ·rw[if_pos (by omega),if_pos h1,if_pos h1]
  ·rw[if_neg (by omega),if_neg h1]
   by_cases h2:j<16
   ·rw[if_pos h2]; simp[zae,List.getElem?_replicate]; omega
   ·rw[if_neg h2]; simp[zae,List.getElem?_replicate]; omega
 rw[List.getElem?_set,zkm hl (by omega),hg i (by omega),hg (i+1) (by omega)]
 by_cases e:i=j
 ·subst e
  rw[if_pos rfl,if_pos hi,if_pos (by omega),List.getElem?_eq_getElem (by omega)]
 ·rw[if_neg e]
  by_cases h1:j<i
  ·rw[if_pos h1,if_pos (by omega)]
  ·rw[if_neg h1]
   by_cases h2:j<i+1
   ·omega
   ·rw[if_neg h2]
theorem zuS{v:List Nat}(hl:v.length=34)(hv:∀ x∈v,x<4294967296){i:Nat}(hi:i<16):zlS (ofW (wAt v i)) (4*i) (v[18+i]'(by omega))=ofW (wAt v (i+1)):=by
 rw[zlS,if_pos ⟨by omega,by omega⟩,zuR (zkm hl (by omega)) (zo8 hv i),show 4*i/4=i by omega,zwy hl hi]
theorem zxU{v:List Nat}(hl:v.length=34):wAt v 16=v.drop 18:=by
 rw[wAt,show zae (16-16)=[] from rfl,List.append_nil,List.take_of_length_le (by simp[hl])]
theorem zBj(v:List Nat):wAt v 0=zae 16:=by simp[wAt]
theorem zs3{s:St}{d:Da}(hs:s.ok):(asgL s d).drop 18=zaA d:=by
 simp only[asgL,List.drop_succ_cons]
 rw[List.drop_left' hs.2.2.1]
theorem zo9{v:List Nat}(hl:v.length=34)(hv:∀ x∈v,x<4294967296):(stO v).ok:=by
 have hg:∀ i,v.getD i 0<4294967296:=by
  intro i
  rw[List.getD]
  cases h:v[i]? with
  | none=>decide
  | some z=>exact hv z (List.mem_of_getElem? h)
 exact⟨hg 0,hg 1,by simp[stO,hl],fun x hx=>hv x (List.mem_of_mem_drop (List.mem_of_mem_take hx))⟩
end Go.Ev
/- Windows that are run, by window and by hurdleref17; the laws WindowRuns, WindowRows, WindowNone. -/
namespace Go.Ev
open Go Go.RowKit
variable {G:Tbl}
theorem znr[HasWd G][HasNeg G][HasIns G][HasCheck G][HasData G][HasStep G][HasWRight G][HasWinRun G](w:List In4)(s:St)(d:Da)(hf:w.length≤maxLen)(hk:∀ x∈w,x.k<4294967296)(hs:s.ok)(hd:d.ok)(hw:winB w=true) :
  FP G 292 [FL w,SV s,DV d] (.tup [SV (runW d w s).1,.int .i64 ((runW d w s).2:Nat)]):=by
 refine zak HasWinRun.h_window_Run (Nat.le_of_ble_eq_true rfl) ?_
 have hr:=zbV (G:=G) w hf hk
 rw[hw] at hr
 have hwl:w.length≤32:=by simp only[winB,Bool.and_eq_true,decide_eq_true_eq] at hw; exact hw.1
 have hl:=hs.2.2.1
 have htk:=zah (k:=.u32) hl
 have h6:=hd.2.2.2.1
 have ht6:=zah (k:=.u64) h6
 obtain⟨R,hR⟩:∃ R,R=runW d w s:=⟨_,rfl⟩
 have hRl:=zeB d w s
 have hRo:=zeC hd w s hs hk
 rw[←hR] at hRl hRo ⊢
 simp[FL] at hr
 simp[FL,SV,DV,St.cs,Da.cs]
 refine zab hr ?_
 simp[hl,htk]
 refine zgN (fun z:St×Nat=>w.length-z.2) (fun z=>[(0,FL w),(4,.ptr 0 0),(5,.ptr 1 0),(6,.ptr 2 0),(16,FL w),(17,.int .i64 w.length),(18,.int .i64 z.2)])
  (fun z=>[some (.cells z.1.cs),some (.cells d.cs),some (.cells (zac .u32 (zae 18)))])
  (fun z=>z.2≤w.length∧z.1.ok∧(runW d (w.drop z.2) z.1).1=R.1∧z.2+(runW d (w.drop z.2) z.1).2=R.2) (s,0) ?_ ?_
 ·refine⟨⟨Nat.zero_le _,hs,by simp[hR],by simp[hR]⟩,?_,?_⟩
  ·simp[zaa,FL]
  ·simp[zad,Da.cs,St.cs]
 rintro⟨t,i⟩ ⟨hi,ht,hr1,hr2⟩
 simp only at hi ht hr1 hr2
 have hl1:=ht.2.2.1
 have htk1:=zah (k:=.u32) hl1
 by_cases hlt:i<w.length
 ·obtain⟨x,hfx⟩:∃ x,x=w[i]:=⟨_,rfl⟩
  have hg:w[i]?=some x:=by rw[List.getElem?_eq_getElem hlt,hfx]
  have hgv:=hfx.symm
  have hdr:=List.drop_eq_getElem_cons hlt
  rw[hgv] at hdr
  have hkk:=hk x (hgv▸List.getElem_mem hlt)
  have hcs:x.cs=[.int .i64 x.op,.int .i64 x.jt,.int .i64 x.jf,.int .u32 (x.k:Int)]:=rfl
  have hst:=zvT (G:=G) t x d ht hkk hd
  have hso:=zdp ht hkk hd
  have hl2:=hso.2.2.1
  have htk2:=zah (k:=.u32) hl2
  have hdf:=zhz (k:=.u32) hl1
  have hz16:zac .u32 (zae 18)=.int .u32 0::.int .u32 0::zac .u32 (zae 16):=rfl
  rw[hdr] at hr1 hr2
  simp only[runW] at hr1 hr2
  simp[SV,IV,DV,hcs,St.cs,Da.cs] at hst
  simp(disch:=omega)[ltT,FL,hg,hgv,hcs,St.cs,Da.cs,hl1,htk1,h6,ht6,-Int.natCast_add]
  refine zab hst ?_
  cases hok:(zas t x d).2
  ·rw[hok] at hr1 hr2
   simp only[Bool.false_eq_true,if_false] at hr1 hr2
   simp[hl1,htk1,hl2,htk2,hdf,hz16,-Int.natCast_add]
   rw[←hr1,←hr2]
   simp[St.cs]
  ·rw[hok] at hr1 hr2
   simp only[if_true] at hr1 hr2
   simp(disch:=omega)[hl1,htk1,hl2,htk2,hdf,zag,-Int.natCast_add]
   refine⟨((zas t x d).1,i+1),by simp only; omega,⟨by simp only; omega,hso,hr1,by simp only; omega⟩,?_,?_⟩
   ·simp[zaa,FL,-Int.natCast_add]
   ·simp[zad,Da.cs,St.cs,hl1,htk1,hl2,htk2,hdf]
 ·have hne:i=w.length:=by omega
  subst hne
  rw[List.drop_length] at hr1 hr2
  simp only[runW] at hr1 hr2
  have hz16:zac .u32 (zae 18)=.int .u32 0::.int .u32 0::zac .u32 (zae 16):=rfl
  simp[FL,St.cs,Da.cs,hl1,htk1,hz16]
  rw[←hr1,←hr2]
  simp[St.cs]
end Go.Ev
/- The laws WindowRuns, WindowRows, WindowNone. -/
namespace Go.Ev
open Go Go.RowKit
variable {G:Tbl}
theorem zqB(l:List In4):(IL l=[])=(l=[]):=propext (zjU l)
end Go.Ev
/- The variables' numbers, and back; the law WindowAssigns. -/
namespace Go.Ev
open Go Go.RowKit
variable {G:Tbl}
def asAt(s:St)(d:Da)(i:Nat):List Nat:=s.a::s.x::(s.m++((zaA d).take i++zae (16-i)))
theorem zlb{s:St}{d:Da}(hs:s.ok)(hd:d.ok){i:Nat}(hi:i≤16):(asAt s d i).length=34:=by
 simp[asAt,hs.2.2.1,zbt hd.2.2.2.1]; omega
theorem zmB{s:St}{d:Da}(hd:d.ok):asAt s d 16=asgL s d:=by
 rw[asAt,show zae (16-16)=[] from rfl,List.append_nil,List.take_of_length_le (by rw[zbt hd.2.2.2.1]; exact Nat.le_refl _),asgL]
theorem zuT{s:St}{d:Da}(hs:s.ok)(hd:d.ok){i:Nat}(hi:i<16):(asAt s d i).set (18+i) ((zaA d).getD i 0)=asAt s d (i+1):=by
 have hw:=zbt hd.2.2.2.1
 have hm:=hs.2.2.1
 have hg:(zaA d).getD i 0=(zaA d)[i]'(by omega):=by simp[List.getD,List.getElem?_eq_getElem (show i<(zaA d).length by omega)]
 rw[hg]
 have e1:18+i=(16+i)+1+1:=by omega
 simp only[asAt,e1,List.set_cons_succ]
 congr 2
 rw[List.set_append_right _ _ (by omega),hm,show 16+i-16=i by omega]
 congr 1
 rw[List.set_append_right _ _ (by rw[List.length_take]; omega),List.length_take,Nat.min_eq_left (by omega),Nat.sub_self,List.take_succ_eq_append_getElem (by omega),List.append_assoc]
 congr 1
 rw[show 16-i=(16-(i+1))+1 by omega]
 rfl
theorem zjN[HasData G][HasWinAsg G](s:St)(d:Da)(hs:s.ok)(hd:d.ok):FP G 293 [SV s,DV d] (.agg (zac .u32 (asgL s d))):=by
 refine zak HasWinAsg.h_window_Assign (Nat.le_of_ble_eq_true rfl) ?_
 have hl:=hs.2.2.1
 have htk:=zah (k:=.u32) hl
 have h6:=hd.2.2.2.1
 have ht6:=zah (k:=.u64) h6
 have hz:zac .u32 (zae 34)=.int .u32 0::.int .u32 0::zac .u32 (zae 32):=rfl
 have hz2:(zac .u32 (zae 32)).drop 16=zac .u32 (zae 16):=rfl
 have h0:asAt s d 0=s.a::s.x::(s.m++zae 16):=by simp[asAt]
 have hcap:∀ l m:List Nat,zac .u32 (l++m)=zac .u32 l++zac .u32 m:=fun l m=>by simp[zac]
 simp[SV,DV,St.cs,Da.cs,hz,hl,htk,hz2]
 refine W_up 16 (fun i=>[(3,.ptr 1 0),(4,.ptr 2 0),(5,.ptr 3 0),(17,.int .i64 i)])
  (fun i=>[some (.cells s.cs),some (.cells d.cs),some (.cells (zac .u32 (zae 34))),some (.cells (zac .u32 (asAt s d i)))]) (fun _=>True) ?_ ?_
 ·have hj:clL 4 (zac .u32 s.m++zac .u32 (zae 16))=zac .u32 (s.m++zae 16):=by rw[←hcap]; simp
  simp[zaa,zad,St.cs,Da.cs,h0,hz,hj]
  rfl
 intro i hi _
 by_cases hlt:i<16
 ·have hw:=zp9 (G:=G) d (4*i) hd (by omega)
  have hw2:zb2 d (4*i)=((zaA d).getD i 0,true):=by rw[zb2,if_pos ⟨by omega,by omega⟩,show 4*i/4=i by omega]
  rw[hw2] at hw
  have hal:=zlb hs hd hi
  have cs:=zbc .u32 (asAt s d i) (18+i) ((zaA d).getD i 0) (by omega)
  rw[zuT hs hd hlt] at cs
  obtain⟨x,hx⟩:∃ x,x=(zaA d).getD i 0:=⟨_,rfl⟩
  rw[←hx] at cs hw
  have e1:addI .i64 18 (i:Int)=((18+i:Nat):Int):=by rw[show(18:Int)=((18:Nat):Int) from rfl]; exact addN (by omega)
  have e2:mulI .i64 4 (i:Int)=((4*i:Nat):Int):=by unfold mulI; rw[show(4:Int)*(i:Int)=((4*i:Nat):Int) by omega]; exact IntWalk.i64_in _ ⟨by omega,by omega⟩
  have e3:zaG .u32 ((4*i:Nat):Int)=((4*i:Nat):Int):=by unfold zaG; exact IntWalk.u32_in _ ⟨by omega,by omega⟩
  simp[DV,Da.cs,-Int.natCast_mul] at hw
  simp(disch:=omega)[ltT,leTn,e1,e2,e3,Da.cs,h6,ht6,-Int.natCast_add,-Int.natCast_mul]
  refine zab hw ?_
  simp(disch:=omega)[ltT,leTn,hal,cs,hlt,zag,zaa,zad,St.cs,Da.cs,h6,ht6,-Int.natCast_add,-Int.natCast_mul]
 ·have hne:i=16:=by omega
  subst hne
  have hal:=zla hs hd
  have ht:=zah (k:=.u32) hal
  have e16:=zmB (s:=s) hd
  simp[e16,hal,ht]
theorem zpZ[HasData G][HasWith G][HasWinState G](v:List Nat)(hl:v.length=34)(hv:∀ x∈v,x<4294967296):FP G 294 [.agg (zac .u32 v)] (.tup [SV (stO v),DV (ofW (v.drop 18))]):=by
 refine zak HasWinState.h_window_State (Nat.le_of_ble_eq_true rfl) ?_
 have htk:=zah (k:=.u32) hl
 obtain⟨a,hva⟩:∃ a,a=v[0]:=⟨_,rfl⟩
 obtain⟨x,hvx⟩:∃ x,x=v[1]:=⟨_,rfl⟩
 have c0:(zac .u32 v).take 1=[.int .u32 (a:Nat)]:=by have:=zaO .u32 v 0 (by omega); rwa[List.drop_zero,←hva] at this
 have c1:(zac .u32 v).tail.take 1=[.int .u32 (x:Nat)]:=by have:=zaO .u32 v 1 (by omega); rwa[List.drop_one,←hvx] at this
 obtain⟨m,hm⟩:∃ m,m=(v.drop 2).take 16:=⟨_,rfl⟩
 have hml:m.length=16:=by rw[hm]; simp[hl]
 have cm:((zac .u32 v).drop 2).take 16=zac .u32 m:=by rw[hm]; simp[zac,List.map_drop,List.map_take]
 have hmk:=zah (k:=.u32) hml
 have hst:stO v=⟨a,x,m⟩:=by
  rw[hva,hvx,hm]
  simp[stO,List.getD,List.getElem?_eq_getElem (show 0<v.length by omega),List.getElem?_eq_getElem (show 1<v.length by omega)]
 have hz:zac .u32 (zae 18)=.int .u32 0::.int .u32 0::zac .u32 (zae 16):=rfl
 have hz2:(zac .u32 (zae 16)).drop 16=[]:=rfl
 have h0:ofW (wAt v 0)=⟨0,0,0,zae 6⟩:=by rw[zBj]; rfl
 have hz6:zac .u64 (zae 6)=[.int .u64 0,.int .u64 0,.int .u64 0,.int .u64 0,.int .u64 0,.int .u64 0]:=rfl
 simp[hl,htk,c0,c1,cm,hz,hz2,hml,hmk]
 refine W_up 16 (fun i=>[(1,.ptr 0 0),(2,.ptr 1 0),(3,.ptr 2 0),(4,.ptr 3 0),(5,.ptr 4 0),(16,.int .i64 i)])
  (fun i=>[some (.cells (zac .u32 v)),some (.cells (zac .u32 (zae 18))),some (.cells ZD),some (.cells (St.cs ⟨a,x,m⟩)),some (.cells (ofW (wAt v i)).cs)]) (fun _=>True) ?_ ?_
 ·simp[zaa,zad,St.cs,Da.cs,h0,hz,hz6,ZD]
 intro i hi _
 have hok:=zjL (zkm hl hi) (zo8 hv i)
 have h6:=hok.2.2.2.1
 have ht6:=zah (k:=.u64) h6
 by_cases hlt:i<16
 ·have hw:=zwx (G:=G) (ofW (wAt v i)) (4*i) (v[18+i]'(by omega)) hok (by omega) (hv _ (List.getElem_mem _))
  rw[zuS hl hv hlt] at hw
  have hok2:=zjL (zkm hl (show i+1≤16 by omega)) (zo8 hv (i+1))
  have k6:=hok2.2.2.2.1
  have kt6:=zah (k:=.u64) k6
  have cg:=zaO .u32 v (18+i) (by omega)
  generalize ofW (wAt v i)=D at hw h6 ht6
  obtain⟨D',hD'⟩:∃ D',D'=ofW (wAt v (i+1)):=⟨_,rfl⟩
  rw[←hD'] at hw k6 kt6
  obtain⟨y,hy⟩:∃ y,y=v[18+i]'(by omega):=⟨_,rfl⟩
  rw[←hy] at hw cg
  have e1:addI .i64 18 (i:Int)=((18+i:Nat):Int):=by rw[show(18:Int)=((18:Nat):Int) from rfl]; exact addN (by omega)
  have e2:mulI .i64 4 (i:Int)=((4*i:Nat):Int):=by unfold mulI; rw[show(4:Int)*(i:Int)=((4*i:Nat):Int) by omega]; exact IntWalk.i64_in _ ⟨by omega,by omega⟩
  have e3:zaG .u32 ((4*i:Nat):Int)=((4*i:Nat):Int):=by unfold zaG; exact IntWalk.u32_in _ ⟨by omega,by omega⟩
  simp[DV,Da.cs,-Int.natCast_mul] at hw
  simp(disch:=omega)[ltT,leTn,e1,e2,e3,Da.cs,h6,ht6,hl,cg,-Int.natCast_add,-Int.natCast_mul]
  refine zab hw ?_
  simp(disch:=omega)[ltT,leTn,hlt,zag,zaa,zad,St.cs,Da.cs,ZD,h6,ht6,k6,kt6,←hD',zhz (k:=.u64) h6,-Int.natCast_add,-Int.natCast_mul]
 ·have hne:i=16:=by omega
  subst hne
  rw[zxU hl] at h6 ht6 ⊢
  simp[St.cs,Da.cs,ZD,h6,ht6,hml,hmk,hz,hst,SV,DV]
end Go.Ev
/- A window's values are what it makes of a state: plain laws. -/
namespace Go.Ev
open Go Go.RowKit
variable {L L':List Nd} {v:List Nat}
theorem zpa{n:Nat}(h:n<L.length):hasI L (n:Int)=true:=by simp[hasI]; exact h
theorem zeD{k:Nat}{x:Int}(e:Ext L L' k)(h:hasI L x=true):hasI L' x=true∧valI v L' x=valI v L x:=by
 obtain⟨h0,h1⟩:0≤x∧x<L.length:=by simpa[hasI] using h
 obtain⟨n,rfl⟩:=Int.eq_ofNat_of_zero_le h0
 have:=e.pre.length_le
 exact⟨zpa (by omega),zeo e (by omega)⟩
theorem Res.has{q:Int×List Nd}{o:Option Nat}(h:Res v q o):hasI q.2 q.1=true∧valI v q.2 q.1=o:=by
 obtain⟨n,h1,h2,h3⟩:=h
 rw[h1]
 exact⟨zpa h2,h3⟩
def pt(t:St):List Nat:=t.a::t.x::t.m
structure PV (v:List Nat) (L:List Nd) (p:List Int) (t:St):Prop where
 len:p.length=18
 val:∀ i,i<18→hasI L (p.getD i 0)=true∧valI v L (p.getD i 0)=some ((pt t).getD i 0)
theorem zxV{t:St}(h:t.ok):(pt t).length=18:=by simp[pt,h.2.2.1]
theorem PV.set{p:List Int}{t t':St}{k i n:Nat}{x:Int}(h:PV v L p t)(e:Ext L L' k)(hx:hasI L' x=true)(hv:valI v L' x=some n)(hi:i<18)(hl:(pt t).length=18)(ht:pt t'=(pt t).set i n):PV v L' (p.set i x) t':=by
 refine⟨by rw[List.length_set]; exact h.len,fun j hj=>?_⟩
 rw[ht,List.getD_eq_getElem?_getD,List.getD_eq_getElem?_getD,List.getElem?_set,List.getElem?_set]
 by_cases hij:i=j
 ·subst hij
  simp only[if_true,h.len,hl,hi,Option.getD_some]
  exact⟨hx,hv⟩
 ·simp only[hij,if_false,←List.getD_eq_getElem?_getD]
  obtain⟨h1,h2⟩:=h.val j hj
  obtain⟨h3,h4⟩:=zeD (v:=v) e h1
  exact⟨h3,by rw[h4,h2]⟩
theorem PV.same{p:List Int}{t:St}{k:Nat}(h:PV v L p t)(e:Ext L L' k):PV v L' p t :=
 ⟨h.len,fun j hj=>by obtain⟨h1,h2⟩:=h.val j hj; obtain⟨h3,h4⟩:=zeD (v:=v) e h1; exact⟨h3,by rw[h4,h2]⟩⟩
theorem zlT{op:Int}(h:(aluT op).2.2=true):(doW (aluT op).1 0 1).2=true:=by
 unfold aluT at h ⊢
 split at h
 ·rename_i hm
  rw[if_pos hm]
  simp only[List.mem_cons,List.not_mem_nil,or_false] at hm
  rcases hm with rfl|rfl|rfl|rfl|rfl|rfl|rfl|rfl|rfl<;>decide
 ·rename_i hn
  rw[if_neg hn]
  split at h
  ·rename_i hm
   rw[if_pos hm]
   simp only[List.mem_cons,List.not_mem_nil,or_false] at hm
   rcases hm with rfl|rfl|rfl|rfl|rfl|rfl|rfl|rfl|rfl<;>decide
  ·cases h
theorem zuU{s:VS}{t:St}{st0:St}{d:Da}{x:In4}(hi:Inv s.L)(h:PV (asgL st0 d) s.L s.p t)(hs0:st0.ok)(hd:d.ok)(ht:t.ok)(hk:x.k<4294967296)(hx:zaQ x=true)(hgo:(zas t x d).2=true) :
  PV (asgL st0 d) (zau s x).L (zau s x).p (zas t x d).1:=by
 have hv:=zla hs0 hd
 have hvw:=zqA hs0 hd
 obtain⟨v,hvd⟩:∃ v,v=asgL st0 d:=⟨_,rfl⟩
 have hw18:∀ j,j<16→v[18+j]?.getD 0=(zaA d).getD j 0:=fun j hj=>by
  have:=zs3 (d:=d) hs0
  rw[←hvd] at this
  rw[List.getD_eq_getElem?_getD,←this,List.getElem?_drop]
 rw[←hvd] at h hv hvw ⊢
 have hl:=zxV ht
 have rk:∀(q:Int×List Nd) (n:Nat),Res v q (some n)→∀(i k:Nat) (t':St),Ext s.L q.2 k→i<18→pt t'=(pt t).set i n→PV v q.2 (s.p.set i q.1) t':=fun q n hr i k t' e hi' ht'=>by
  obtain⟨h1,h2⟩:=hr.has
  exact h.set e h1 h2 hi' hl ht'
 have cp:∀(i j:Nat) (t':St),i<18→j<18→pt t'=(pt t).set i ((pt t).getD j 0)→PV v s.L (s.p.set i (s.p.getD j 0)) t':=fun i j t' hi' hj ht'=>by
  obtain⟨h1,h2⟩:=h.val j hj
  exact h.set (.refl hi 0) h1 h2 hi' hl ht'
 have rc:Res v (putN s.L (zat (x.k::zae 34))) (some x.k):=zjT hi hv hk
 have ec:Ext s.L (putN s.L (zat (x.k::zae 34))).2 1:=(zbA hi (zbF (by simp) (zca hk) _)).1
 have hmem:x.op=96∨x.op=97∨x.op=2∨x.op=3→x.k<16:=fun ho=>by
  simp only[zaQ,Bool.and_eq_true] at hx
  have h2:=hx.2
  rcases ho with ho|ho|ho|ho<;>simp[za4,ho] at h2<;>exact h2
 have hld:x.op=32→x.k%4=0∧x.k<64:=fun ho=>by
  simp only[zaQ,Bool.and_eq_true] at hx
  have h2:=hx.2
  simp[za4,ho] at h2; exact h2
 cases hal:(aluT x.op).2.2 with
 | true =>
  rw[zas,if_pos hal] at hgo
  simp only at hgo
  have hst:(zas t x d).1={ t with a:=(aluR t x).1 }:=by rw[zas,if_pos hal]; simp only[hgo,if_true]
  rw[hst,zau,if_pos hal]
  -- by what
  have hby:Ext s.L (byV s x).2 1∧hasI (byV s x).2 (byV s x).1=true∧valI v (byV s x).2 (byV s x).1=some (aluB t x):=by
   rw[byV,aluB]
   cases hb:(aluT x.op).2.1 with
   | true =>
    simp only[if_true]
    obtain⟨h1,h2⟩:=h.val 1 (by omega)
    exact⟨.refl hi 1,h1,h2⟩
   | false =>
    simp only[Bool.false_eq_true,if_false]
    obtain⟨h1,h2⟩:=rc.has
    exact⟨ec,h1,h2⟩
  obtain⟨e1,b1,b2⟩:=hby
  obtain⟨p1,p2⟩:=h.val 0 (by omega)
  obtain⟨p3,p4⟩:=zeD (v:=v) e1 p1
  have r:=zmH (v:=v) (kind:=(aluT x.op).1) (x:=s.p.getD 0 0) (y:=(byV s x).1) e1.inv hv hvw (zlT hal) p3 b1
  rw[p4,p2,b2] at r
  have ha:(pt t).getD 0 0=t.a:=rfl
  have hr:aluV (aluT x.op).1 (some t.a) (some (aluB t x))=some (aluR t x).1:=zhF hgo
  rw[ha,hr] at r
  exact rk _ _ r 0 3 _ (e1.trans (zko e1.inv)) (by omega) rfl
 | false =>
  have hst:(zas t x d).1=zaF t x d:=by rw[zas,if_neg (by simp[hal])]
  rw[hst,zau,if_neg (by simp[hal]),zaF]
  by_cases o0:x.op=0
  ·simp only[o0,if_true]
   exact rk _ _ rc 0 1 _ ec (by omega) rfl
  by_cases o1:x.op=1
  ·simp only[o1,if_true]
   exact rk _ _ rc 1 1 _ ec (by omega) rfl
  by_cases o32:x.op=32
  ·obtain⟨k4,k64⟩:=hld o32
   have r:=zmI (v:=v) (i:=((18+x.k/4:Nat):Int)) hi hv hvw (by omega) (by omega)
   rw[Int.toNat_natCast,hw18 _ (by omega)] at r
   have hw:(zb2 d x.k).1=(zaA d).getD (x.k/4) 0:=by rw[zb2,if_pos ⟨k4,k64⟩]
   rw[if_neg o0,if_neg o1,if_pos o32,if_neg o0,if_neg o1,if_pos o32]
   have e:((18+x.k/4:Nat):Int)=18+((x.k/4:Nat):Int):=by omega
   rw[e] at r
   exact rk _ _ r 0 1 _ (zfL hi) (by omega) (by rw[hw]; rfl)
  by_cases o96:x.op=96
  ·have k16:=hmem (.inl o96)
   rw[if_neg o0,if_neg o1,if_neg o32,if_pos o96,if_neg o0,if_neg o1,if_neg o32,if_pos o96]
   exact cp 0 (2+x.k) _ (by omega) (by omega) (by rw[zdi,if_pos k16]; simp only[pt,List.set_cons_zero]; rw[show 2+x.k=x.k+1+1 by omega,List.getD_cons_succ,List.getD_cons_succ])
  by_cases o97:x.op=97
  ·have k16:=hmem (.inr (.inl o97))
   rw[if_neg o0,if_neg o1,if_neg o32,if_neg o96,if_pos o97,if_neg o0,if_neg o1,if_neg o32,if_neg o96,if_pos o97]
   exact cp 1 (2+x.k) _ (by omega) (by omega) (by rw[zdi,if_pos k16]; simp only[pt,List.set_cons_succ,List.set_cons_zero]; rw[show 2+x.k=x.k+1+1 by omega,List.getD_cons_succ,List.getD_cons_succ])
  by_cases o2:x.op=2
  ·have k16:=hmem (.inr (.inr (.inl o2)))
   rw[if_neg o0,if_neg o1,if_neg o32,if_neg o96,if_neg o97,if_pos o2,if_neg o0,if_neg o1,if_neg o32,if_neg o96,if_neg o97,if_pos o2]
   exact cp (2+x.k) 0 _ (by omega) (by omega) (by rw[zbP,if_pos k16,show 2+x.k=x.k+1+1 by omega]; rfl)
  by_cases o3:x.op=3
  ·have k16:=hmem (.inr (.inr (.inr o3)))
   rw[if_neg o0,if_neg o1,if_neg o32,if_neg o96,if_neg o97,if_neg o2,if_pos o3,if_neg o0,if_neg o1,if_neg o32,if_neg o96,if_neg o97,if_neg o2,if_pos o3]
   exact cp (2+x.k) 1 _ (by omega) (by omega) (by rw[zbP,if_pos k16,show 2+x.k=x.k+1+1 by omega]; rfl)
  rw[if_neg o0,if_neg o1,if_neg o32,if_neg o96,if_neg o97,if_neg o2,if_neg o3,if_neg o0,if_neg o1,if_neg o32,if_neg o96,if_neg o97,if_neg o2,if_neg o3]
  by_cases o132:x.op=132
  ·obtain⟨p1,p2⟩:=h.val 0 (by omega)
   have r:=zqO (v:=v) hi hv hvw p1
   rw[p2] at r
   simp only[o132,if_true]
   exact rk _ (negW t.a) r 0 3 _ (zkp hi) (by omega) rfl
  by_cases o7:x.op=7
  ·simp only[o7,if_true]
   have h1:=cp 1 0 { t with x:=t.a } (by omega) (by omega) rfl
   obtain⟨p1,p2⟩:=h.val 0 (by omega)
   exact h1.set (.refl hi 0) p1 p2 (by omega) (by simp[pt,ht.2.2.1]) rfl
  by_cases o135:x.op=135
  ·simp only[o135,if_true]
   exact cp 0 1 _ (by omega) (by omega) rfl
  simp only[o132,o7,o135,if_false]
  exact h
end Go.Ev
/- A window's values, from its front to its end: plain laws. -/
namespace Go.Ev
open Go Go.RowKit
variable {L L':List Nd} {v:List Nat}
def divN(w:List In4)(n:Nat):Nat:=(w.take n).countP fun x=>decide (x.op=60)
theorem zeE(x:In4)(w:List In4)(n:Nat):divN (x::w) (n+1)=(if x.op=60 then 1 else 0)+divN w n:=by
 simp only[divN,List.take_succ_cons,List.countP_cons,decide_eq_true_eq]; omega
theorem zlc{op:Int}:(aluT op).2.1=true∧(aluT op).1=52↔op=60:=by
 constructor
 ·rintro⟨h1,h2⟩
  unfold aluT at h1 h2
  split at h1
  ·cases h1
  ·rename_i hn
   rw[if_neg hn] at h2
   split at h1
   ·rename_i hm
    rw[if_pos hm] at h2
    simp only at h2
    omega
   ·cases h1
 ·rintro rfl
  decide
theorem zwz:aluT 60=(52,true,true):=by decide
theorem zmC(s:VS)(x:In4):(zau s x).st=s.st++(if x.op=60 then [s.p.getD 1 0] else []):=by
 by_cases h:x.op=60
 ·have ht:(aluT x.op).2.2=true:=by rw[h]; decide
  rw[zau,if_pos ht,if_pos h]
  simp only[zlc.2 h,and_self,if_true]
 ·rw[if_neg h,List.append_nil,zau]
  split
  ·simp only[show¬((aluT x.op).2.1=true∧(aluT x.op).1=52) from fun h'=>h (zlc.1 h'),if_false]
  ·repeat (first|rfl|split)
theorem zs4{kind:Int}{a b:Nat}(hk:(doW kind 0 1).2=true)(h:(doW kind a b).2=false):kind=52∧b=0:=by
 unfold doW at hk h
 by_cases h52:kind=52
 ·subst h52
  refine⟨rfl,?_⟩
  by_cases hb:b=0
  ·exact hb
  ·simp[hb] at h
 ·exfalso
  repeat' split at h
  all_goals first|(cases h; done)|skip
  all_goals simp_all
theorem zpb{t:St}{x:In4}{d:Da}(hx:zaQ x=true)(h:(zas t x d).2=false):x.op=60∧t.x=0:=by
 rw[zas] at h
 split at h
 ·rename_i ht
  simp only at h
  obtain⟨h1,h2⟩:=zs4 (zlT ht) h
  cases hb:(aluT x.op).2.1 with
  | true =>
   rw[aluB,if_pos hb] at h2
   exact⟨zlc.1 ⟨hb,h1⟩,h2⟩
  | false =>
   exfalso
   rw[aluB,hb,if_neg (by simp)] at h2
   have:x.op=52:=by
    unfold aluT at h1 hb
    split at h1
    ·exact h1
    ·rename_i hn
     rw[if_neg hn] at hb
     split at h1
     ·rename_i hm
      rw[if_pos hm] at hb
      cases hb
     ·cases h1
   simp only[zaQ,za4,this,Bool.and_eq_true] at hx
   simp at hx
   omega
 ·cases h
theorem zxW{t:St}{x:In4}{d:Da}(h:(zas t x d).2=true)(ho:x.op=60):t.x≠0:=by
 intro h0
 rw[zas,if_pos (by rw[ho]; decide)] at h
 simp only[aluR,aluB,ho,zwz,if_true,h0] at h
 simp[doW] at h
theorem zns{s:VS}{x:In4}(hi:Inv s.L)(hp:s.p.length=18)(hk:x.k<4294967296):Ext s.L (zau s x).L 3∧(zau s x).p.length=18:=by
 have:=zok (L:=s.L) (s:=s) (k:=0) (n:=s.st.length) ⟨.refl hi 0,hp,Nat.le_refl _⟩ hk
 exact⟨this.ext,this.len⟩
theorem zpc:∀(w:List In4) {s:VS},Inv s.L→s.p.length=18→(∀ x∈w,x.k<4294967296)→Ext s.L (w.foldl zau s).L (3*w.length)∧(w.foldl zau s).p.length=18
 | [],s,hi,hp,_=>⟨.refl hi _,hp⟩
 | x::w,s,hi,hp,hk=>by
  obtain⟨e1,h1⟩:=zns hi hp (hk x (by simp))
  obtain⟨e2,h2⟩:=zpc w (s:=zau s x) e1.inv h1 fun y hy=>hk y (by simp[hy])
  exact⟨(e1.trans e2).mono (by simp; omega),h2⟩
theorem zqC:∀(w:List In4) (s:VS),∃ new,(w.foldl zau s).st=s.st++new∧new.length=divN w w.length
 | [],s=>⟨[],by simp,by simp[divN]⟩
 | x::w,s=>by
  obtain⟨new,h1,h2⟩:=zqC w (zau s x)
  refine⟨(if x.op=60 then [s.p.getD 1 0] else [])++new,by rw[List.foldl_cons,h1,zmC,List.append_assoc],?_⟩
  rw[List.length_cons,zeE,List.length_append,h2]
  split<;>rfl
structure WV (v:List Nat) (L:List Nd) (p st:List Int) (w:List In4) (d:Da) (t:St):Prop where
 num:st.length=divN w w.length
 ahead:∀ i,i<divN w (runW d w t).2→∃ x n,st[i]?=some x∧hasI L x=true∧valI v L x=some n∧n≠0
 stop:(runW d w t).2<w.length→∃ x,st[divN w (runW d w t).2]?=some x∧hasI L x=true∧valI v L x=some 0
 done:(runW d w t).2=w.length→PV v L p (runW d w t).1
theorem znt{s0:St}{d:Da}(hs0:s0.ok)(hd:d.ok):∀(w:List In4) {s:VS} {t:St},Inv s.L→PV (asgL s0 d) s.L s.p t→t.ok→(∀ x∈w,x.k<4294967296)→(∀ x∈w,zaQ x=true) →
  ∃ new,(w.foldl zau s).st=s.st++new∧WV (asgL s0 d) (w.foldl zau s).L (w.foldl zau s).p new w d t
 | [],s,t,hi,hp,ht,_,_=>⟨[],by simp,by simp[divN],fun i h=>by simp[divN] at h,fun h=>by simp[runW] at h,fun _=>hp⟩
 | x::w,s,t,hi,hp,ht,hk,hx=>by
  have hkx:=hk x (by simp)
  have hxx:=hx x (by simp)
  obtain⟨e1,h1⟩:=zns hi hp.len hkx
  have hkw:∀ y∈w,y.k<4294967296:=fun y hy=>hk y (by simp[hy])
  obtain⟨e2,h2⟩:=zpc w (s:=zau s x) e1.inv h1 hkw
  have e:=e1.trans e2
  obtain⟨q1,q2⟩:=hp.val 1 (by omega)
  obtain⟨q3,q4⟩:=zeD (v:=asgL s0 d) e q1
  rw[q2] at q4
  have hp1:(pt t).getD 1 0=t.x:=rfl
  rw[hp1] at q4
  rw[List.foldl_cons]
  cases hgo:(zas t x d).2 with
  | true =>
   have hp':=zuU hi hp hs0 hd ht hkx hxx hgo
   have ht':=zdp ht hkx hd
   obtain⟨new,n1,n2⟩:=znt hs0 hd w e1.inv hp' ht' hkw fun y hy=>hx y (by simp[hy])
   have hr:runW d (x::w) t=((runW d w (zas t x d).1).1,(runW d w (zas t x d).1).2+1):=by simp only[runW,hgo,if_true]
   obtain⟨m1,m2,m3,m4⟩:=n2
   refine⟨(if x.op=60 then [s.p.getD 1 0] else [])++new,by rw[n1,zmC,List.append_assoc],?_,?_,?_,?_⟩
   ·rw[List.length_cons,zeE,List.length_append,m1]
    split<;>rfl
   ·rw[hr]
    intro i hlt
    simp only[zeE] at hlt
    by_cases ho:x.op=60
    ·rw[if_pos ho] at hlt ⊢
     cases i with
     | zero=>exact⟨_,_,rfl,q3,q4,zxW hgo ho⟩
     | succ i =>
      obtain⟨y,n,a1,a2⟩:=m2 i (by omega)
      exact⟨y,n,by simpa using a1,a2⟩
    ·rw[if_neg ho] at hlt ⊢
     obtain⟨y,n,a1,a2⟩:=m2 i (by omega)
     exact⟨y,n,by simpa using a1,a2⟩
   ·rw[hr]
    intro hlt
    simp only[zeE,List.length_cons] at hlt ⊢
    obtain⟨y,a1,a2⟩:=m3 (by omega)
    refine⟨y,?_,a2⟩
    by_cases ho:x.op=60
    ·rw[if_pos ho,if_pos ho,Nat.add_comm]
     simpa using a1
    ·rw[if_neg ho,if_neg ho,Nat.zero_add]
     simpa using a1
   ·rw[hr]
    intro h
    simp only[List.length_cons] at h
    exact m4 (by omega)
  | false =>
   obtain⟨ho,h0⟩:=zpb hxx hgo
   have hr:runW d (x::w) t=(t,0):=by simp only[runW,hgo,Bool.false_eq_true,if_false]
   obtain⟨new,n1,n2⟩:=zqC w (zau s x)
   refine⟨(if x.op=60 then [s.p.getD 1 0] else [])++new,by rw[n1,zmC,List.append_assoc],?_,?_,?_,?_⟩
   ·rw[List.length_cons,zeE,List.length_append,n2]
    split<;>rfl
   ·rw[hr]; intro i hlt; simp[divN] at hlt
   ·rw[hr]
    intro _
    rw[if_pos ho]
    exact⟨_,rfl,q3,by rw[q4,h0]⟩
   ·rw[hr]; intro h; simp at h
theorem zpd{s:St}{d:Da}(hs:s.ok){i:Nat}(hi:i<18):(asgL s d).getD i 0=(pt s).getD i 0:=by
 have hl:=hs.2.2.1
 have e:asgL s d=pt s++zaA d:=by simp[asgL,pt]
 rw[e,List.getD_eq_getElem?_getD,List.getD_eq_getElem?_getD,List.getElem?_append_left (by simp[pt,hl]; omega)]
theorem zuV{s:St}{d:Da}(hi:Inv L)(hs:s.ok)(hd:d.ok):PV (asgL s d) (zaP L 18).L (zaP L 18).p s:=by
 have hv:=zla hs hd
 have hvw:=zqA hs hd
 have main:∀ n,n≤18→∀ i,i<n→hasI (zaP L n).L ((zaP L n).p.getD i 0)=true∧valI (asgL s d) (zaP L n).L ((zaP L n).p.getD i 0)=some ((pt s).getD i 0):=by
  intro n
  induction n with
  | zero=>intro _ i h; omega
  | succ n ih =>
   intro hn i hin
   have ok:=zfd hi n
   rw[zgw,varV]
   simp only
   have r:=zmI (v:=asgL s d) (i:=(n:Int)) ok.ext.inv hv hvw (by omega) (by omega)
   obtain⟨r1,r2⟩:=r.has
   by_cases h:i=n
   ·subst h
    rw[List.getD_eq_getElem?_getD,List.getElem?_set,if_pos rfl,if_pos (by rw[ok.len]; omega),Option.getD_some]
    refine⟨r1,?_⟩
    rw[r2,Int.toNat_natCast,←List.getD_eq_getElem?_getD,zpd hs (by omega)]
   ·rw[List.getD_eq_getElem?_getD,List.getElem?_set,if_neg (by omega),←List.getD_eq_getElem?_getD]
    obtain⟨h1,h2⟩:=ih (by omega) i (by omega)
    obtain⟨h3,h4⟩:=zeD (v:=asgL s d) (zfL ok.ext.inv) h1
    exact⟨h3,by rw[h4,h2]⟩
 exact⟨(zfd hi 18).len,fun i h=>main 18 (Nat.le_refl _) i h⟩
theorem ziR{s:St}{d:Da}{w:List In4}(hi:Inv L)(hs:s.ok)(hd:d.ok)(hk:∀ x∈w,x.k<4294967296)(hw:winB w=true):WV (asgL s d) (winV L w).L (winV L w).p (winV L w).st w d s:=by
 have hwp:∀ x∈w,zaQ x=true:=by simp only[winB,Bool.and_eq_true,List.all_eq_true] at hw; exact hw.2
 obtain⟨new,h1,h2⟩:=znt hs hd w (zfd hi 18).ext.inv (zuV hi hs hd) hs hk hwp
 rw[zol,List.nil_append] at h1
 rw[←h1] at h2
 exact h2
theorem WV.ext{p st:List Int}{w:List In4}{d:Da}{t:St}{k:Nat}(h:WV v L p st w d t)(e:Ext L L' k):WV v L' p st w d t:=by
 have tr:∀{x:Int} {o:Option Nat},hasI L x=true→valI v L x=o→hasI L' x=true∧valI v L' x=o:=fun a b=>by
  obtain⟨h3,h4⟩:=zeD (v:=v) e a
  exact⟨h3,by rw[h4,b]⟩
 refine⟨h.num,fun i hi=>?_,fun hl=>?_,fun hl=>(h.done hl).same e⟩
 ·obtain⟨x,n,a,b,c,d⟩:=h.ahead i hi
  obtain⟨h1,h2⟩:=tr b c
  exact⟨x,n,a,h1,h2,d⟩
 ·obtain⟨x,a,b,c⟩:=h.stop hl
  obtain⟨h1,h2⟩:=tr b c
  exact⟨x,a,h1,h2⟩
end Go.Ev
/- WindowValues. -/
namespace Go.Ev
open Go Go.RowKit
variable {G:Tbl}
theorem cs_cl(s:St)(n:Nat):clL n s.cs=s.cs:=by simp[St.cs,clL,V.cl,zaw,zac,Function.comp_def]
theorem zdD(d:Da)(n:Nat):clL n d.cs=d.cs:=by simp[Da.cs,clL,V.cl,zaw,zac,Function.comp_def]
theorem ziS(s:St):s.cs.map V.nf1=s.cs:=by simp[St.cs,zac,Function.comp_def,V.nf1]
theorem zf8(d:Da):d.cs.map V.nf1=d.cs:=by simp[Da.cs,zac,Function.comp_def,V.nf1]
theorem zih{s:St}(h:s.ok):s.cs.length=18:=by simp[St.cs,h.2.2.1]
theorem zii{d:Da}(h:d.ok):d.cs.length=9:=by simp[Da.cs,h.2.2.2.1]
end Go.Ev
/- Whether two windows differ: decide.Differs, hurdleref18.Differs. -/
namespace Go.Ev
open Go Go.RowKit
variable {G:Tbl}
def zdP(live p:Nat):Bool:=live/2^p%2==1
def zct(live:Nat)(x y:List Nat)(p:Nat):Bool:=zdP live p&&(x.getD p 0 !=y.getD p 0)
def zlU(live:Nat)(x y:List Nat):Bool:=(List.range 18).any (zct live x y)
def zcu(v w:List In4)(live:Nat)(s:St)(d:Da):Bool :=
 if(runW d v s).2<v.length∨(runW d w s).2<w.length then !(decide ((runW d v s).2<v.length)&&decide ((runW d w s).2<w.length))
 else zlU live (asgL (runW d v s).1 d) (asgL (runW d w s).1 d)
theorem zrF[HasDecDf G](live p:Nat)(hl:live<4294967296)(hp:p≤31):FP G 307 [.int .u32 live,.int .i64 p] (.bool (zdP live p)):=by
 refine zak HasDecDf.h_decide_in (Nat.le_of_ble_eq_true rfl) ?_
 have h1:live/2^p<4294967296:=Nat.lt_of_le_of_lt (Nat.div_le_self _ _) hl
 have h2:(((live/2^p%2:Nat):Int)==1)=zdP live p:=by
  unfold zdP
  rw[Bool.eq_iff_iff,beq_iff_eq,beq_iff_eq]; omega
 have h3:((p:Int)<0)=False:=eq_false (by omega)
 simp(disch:=omega)[ziI,zvp h1,h2,h3,-Int.natCast_ediv,-Int.natCast_emod,-Int.natCast_pow]
theorem zlV{live:Nat}{x y:List Nat}{i:Nat}(hi:i<18)(h:zct live x y i=true):zlU live x y=true :=
 List.any_eq_true.2 ⟨i,List.mem_range.2 hi,h⟩
theorem znu{live:Nat}{x y:List Nat}(h:∀ j<18,zct live x y j=false):zlU live x y=false:=by
 rw[zlU,List.any_eq_false]
 intro j hj
 rw[h j (List.mem_range.1 hj)]; decide
theorem zrG[HasWd G][HasNeg G][HasIns G][HasCheck G][HasData G][HasStep G][HasWRight G][HasWinRun G][HasWinAsg G][HasDecDf G](v w:List In4)(live:Nat)(s:St)(d:Da)(hf:v.length≤maxLen)(hg:w.length≤maxLen)
  (hk:∀ x∈v,x.k<4294967296) (hkw:∀ x∈w,x.k<4294967296) (hlv:live<4294967296) (hs:s.ok) (hd:d.ok) :
  FP G 308 [FL v,FL w,.int .u32 live,SV s,DV d] (.bool (winB v&&winB w&&zcu v w live s d)):=by
 refine zak HasDecDf.h_decide_Differs (Nat.le_of_ble_eq_true rfl) ?_
 have hrv:=zbV (G:=G) v hf hk
 have hrw:=zbV (G:=G) w hg hkw
 have sl:=zih hs
 have dl:=zii hd
 have st:=List.take_of_length_le (i:=18) (l:=s.cs) (by omega)
 have dt:=List.take_of_length_le (i:=9) (l:=d.cs) (by omega)
 have sd:s.cs.drop 18=[]:=List.drop_eq_nil_of_le (by omega)
 have dd:d.cs.drop 9=[]:=List.drop_eq_nil_of_le (by omega)
 simp only[FL] at hrv hrw
 simp[FL,SV,DV]
 refine zab hrv ?_
 cases hv:winB v with
 | false=>simp
 | true =>
  simp
  refine zab hrw ?_
  cases hw:winB w with
  | false=>simp
  | true =>
   have ha:=znr (G:=G) v s d hf hk hs hd hv
   have hb:=znr (G:=G) w s d hg hkw hs hd hw
   have hos:=zeC hd v s hs hk
   have hot:=zeC hd w s hs hkw
   have hn1:=zeB d v s
   have hn2:=zeB d w s
   have hD:zcu v w live s d=zcu v w live s d:=rfl
   conv at hD=>rhs; unfold zcu
   obtain⟨A,hA⟩:∃ A,A=(runW d v s).1:=⟨_,rfl⟩
   obtain⟨n,hn⟩:∃ n,n=(runW d v s).2:=⟨_,rfl⟩
   obtain⟨B,hB⟩:∃ B,B=(runW d w s).1:=⟨_,rfl⟩
   obtain⟨m,hm⟩:∃ m,m=(runW d w s).2:=⟨_,rfl⟩
   rw[←hA,←hn] at ha
   rw[←hB,←hm] at hb
   rw[←hA,←hB,←hn,←hm] at hD
   rw[←hA] at hos
   rw[←hB] at hot
   rw[←hn] at hn1
   rw[←hm] at hn2
   rw[hD]
   have al:=zih hos
   have bl:=zih hot
   have at':=List.take_of_length_le (i:=18) (l:=A.cs) (by omega)
   have bt':=List.take_of_length_le (i:=18) (l:=B.cs) (by omega)
   have x1:=zjN (G:=G) A d hos hd
   have x2:=zjN (G:=G) B d hot hd
   have l1:(asgL A d).length=34:=by rw[←zmB hd]; exact zlb hos hd (by omega)
   have l2:(asgL B d).length=34:=by rw[←zmB hd]; exact zlb hot hd (by omega)
   obtain⟨X,hX⟩:∃ X,X=asgL A d:=⟨_,rfl⟩
   obtain⟨Y,hY⟩:∃ Y,Y=asgL B d:=⟨_,rfl⟩
   rw[←hX] at x1 l1
   rw[←hY] at x2 l2
   simp only[FL,SV,DV] at ha hb x1 x2
   simp[sl,dl,st,dt,sd,dd,al,bl,at',bt',cs_cl,zdD,ziS,zf8]
   refine zab ha ?_
   simp[sl,dl,st,dt,sd,dd,al,bl,at',bt',cs_cl,zdD,ziS,zf8]
   refine zab hb ?_
   have c1:((n:Int)<(v.length:Int))=(n<v.length):=propext (by omega)
   have c2:((m:Int)<(w.length:Int))=(m<w.length):=propext (by omega)
   simp[sl,dl,st,dt,sd,dd,al,bl,at',bt',cs_cl,zdD,ziS,zf8,zaa,c1,c2]
   by_cases e1:n<v.length
   ·by_cases e2:m<w.length
    ·simp[e1,e2]
    ·simp[e1,e2]
   by_cases e2:m<w.length
   ·simp[e1,e2]
   simp[e1,e2,sl,dl,st,dt,sd,dd,al,bl,at',bt',cs_cl,zdD,ziS,zf8,zaa]
   refine zab x1 ?_
   simp[sl,dl,st,dt,sd,dd,al,bl,at',bt',cs_cl,zdD,ziS,zf8,zaa]
   refine zab x2 ?_
   have xt:=List.take_of_length_le (i:=34) (l:=zac .u32 X) (by simp; omega)
   have yt:=List.take_of_length_le (i:=34) (l:=zac .u32 Y) (by simp; omega)
   have xd:(zac .u32 X).drop 34=[]:=List.drop_eq_nil_of_le (by simp; omega)
   have yd:(zac .u32 Y).drop 34=[]:=List.drop_eq_nil_of_le (by simp; omega)
   simp[sl,dl,st,dt,sd,dd,al,bl,at',bt',cs_cl,zdD,ziS,zf8,zaa,l1,l2,xt,yt,xd,yd]
   refine W_up 18 (fun i=>[(2,.int .u32 live),(17,.ptr 4 0),(18,.ptr 5 0),(63,.int .i64 i)])
    (fun i=>[some (.cells s.cs),some (.cells d.cs),some (.cells A.cs),some (.cells B.cs),some (.cells (zac .u32 X)),some (.cells (zac .u32 Y))]) (fun i=>∀ j<i,zct live X Y j=false) ?_ ?_
   ·simp[zaa,zad,cs_cl,zdD]
   intro i hi hp
   by_cases hlt:i<18
   ·have hin:=zrF (G:=G) live i hlv (by omega)
    have g1:=zaO .u32 X i (by omega)
    have g2:=zaO .u32 Y i (by omega)
    have gx:X.getD i 0=X[i]'(by omega):=by simp[List.getD,List.getElem?_eq_getElem (show i<X.length by omega)]
    have gy:Y.getD i 0=Y[i]'(by omega):=by simp[List.getD,List.getElem?_eq_getElem (show i<Y.length by omega)]
    have hda:zct live X Y i=zct live X Y i:=rfl
    conv at hda=>rhs; rw[zct,gx,gy]
    obtain⟨p,hpx⟩:∃ p,p=X[i]'(by omega):=⟨_,rfl⟩
    obtain⟨q,hqx⟩:∃ q,q=Y[i]'(by omega):=⟨_,rfl⟩
    rw[←hpx,←hqx] at hda
    rw[←hpx] at g1
    rw[←hqx] at g2
    simp(disch:=omega)[ltT,hlt]
    refine zab hin ?_
    cases hb:zdP live i with
    | false =>
     rw[hb,Bool.false_and] at hda
     have hp':∀ j<i+1,zct live X Y j=false:=fun j hj=>by
      rcases Nat.lt_succ_iff_lt_or_eq.1 hj with h|rfl
      ·exact hp j h
      ·exact hda
     simp(disch:=omega)[ltT,hlt,zag,zaa,zad,cs_cl,zdD,-Int.natCast_add]
     exact hp'
    | true =>
     rw[hb,Bool.true_and] at hda
     by_cases hpq:p=q
     ·have hda':zct live X Y i=false:=by rw[hda,hpq]; simp
      have hp':∀ j<i+1,zct live X Y j=false:=fun j hj=>by
       rcases Nat.lt_succ_iff_lt_or_eq.1 hj with h|rfl
       ·exact hp j h
       ·exact hda'
      simp(disch:=omega)[ltT,leTn,hlt,l1,l2,g1,g2,hpq,zag,zaa,zad,cs_cl,zdD,-Int.natCast_add]
      exact hp'
     ·have hda':zct live X Y i=true:=by rw[hda]; simp[hpq]
      have:=zlV hlt hda'
      simp(disch:=omega)[ltT,leTn,hlt,l1,l2,g1,g2,bneT (show(p:Int)≠q by omega),zaa,this,hpq,←hX,←hY]
   ·have hne:i=18:=by omega
    subst hne
    simp[znu hp,←hX,←hY]
end Go.Ev
/- Values as they were made, and in the book. -/
namespace Go.Ev
open Go Go.RowKit
variable {L L':List Nd} {v:List Nat}
structure MI (v:List Nat) (s:MS):Prop where
 inv:Inv s.L
 len:s.ids.length=s.made.length
 ok:mdOk s.made
 rel:∀(i:Nat) (x:Int) (a:Md) (o:Option Nat),s.ids[i]?=some x→s.made[i]?=some a→(refs v s.made)[i]?=some o →
  a.kind=4∧x=-1∧o=none∨a.kind≠4∧∃ n:Nat,x=n∧n<s.L.length∧valI v s.L n=o
theorem MI.there{s:MS}(h:MI v s){x:Int}(hx:zbQ s.made x=true):∃ n m:Nat,x=n∧n<s.made.length∧atI s.ids x=m∧m<s.L.length∧valI v s.L m=(refs v s.made)[n]?.join:=by
 simp only[zbQ,Bool.and_eq_true,decide_eq_true_eq] at hx
 obtain⟨⟨h0,h1⟩,h2⟩:=hx
 obtain⟨n,rfl⟩:=Int.eq_ofNat_of_zero_le h0
 have hn:n<s.made.length:=by omega
 obtain⟨a,ha⟩:∃ a,s.made[n]?=some a:=⟨_,zal hn⟩
 obtain⟨y,hy⟩:∃ y,s.ids[n]?=some y:=⟨_,zal (by rw[h.len]; exact hn)⟩
 obtain⟨o,ho⟩:∃ o,(refs v s.made)[n]?=some o:=⟨_,zal (by rw[zlf]; exact hn)⟩
 rw[Int.toNat_natCast,ha] at h2
 simp at h2
 rcases h.rel n y a o hy ha ho with⟨h4,_⟩|⟨_,m,hm,hml,hv⟩
 ·exact absurd h4 h2
 ·refine⟨n,m,rfl,hn,?_,hml,?_⟩
  ·rw[atI,if_pos ⟨h0,by rw[h.len]; exact h1⟩,Int.toNat_natCast,hy,hm]; rfl
  ·rw[hv,ho]; rfl
theorem MI.not_there{s:MS}(h:MI v s){x:Int}(hx:zbQ s.made x=false):hasI s.L (atI s.ids x)=false:=by
 rw[atI]
 split
 ·rename_i hr
  obtain⟨n,rfl⟩:=Int.eq_ofNat_of_zero_le hr.1
  have hn:n<s.made.length:=by rw[←h.len]; omega
  obtain⟨a,ha⟩:∃ a,s.made[n]?=some a:=⟨_,zal hn⟩
  obtain⟨y,hy⟩:∃ y,s.ids[n]?=some y:=⟨_,zal (by rw[h.len]; exact hn)⟩
  obtain⟨o,ho⟩:∃ o,(refs v s.made)[n]?=some o:=⟨_,zal (by rw[zlf]; exact hn)⟩
  have h4:a.kind=4:=by
   have:a.kind≠4→zbQ s.made n=true:=fun hk=>by simp only[zbQ,Int.toNat_natCast,ha]; simp[hk,hn]
   by_cases hk:a.kind=4
   ·exact hk
   ·rw[this hk] at hx; cases hx
  rcases h.rel n y a o hy ha ho with⟨_,h5,_⟩|⟨h5,_⟩
  ·rw[Int.toNat_natCast,hy,h5]; rfl
  ·exact absurd h4 h5
 ·rfl
theorem zwA{kind x y:Int}(h:¬((doW kind 0 1).2=true∧hasI L x=true∧hasI L y=true)):bAlu L kind x y=(-1,L):=by rw[bAlu,if_neg h]
theorem MI.step{s:MS}(h:MI v s)(hv:v.length=34)(hvw:∀ c∈v,c<4294967296){a:Md}(hc:a.c<4294967296):MI v (zhE s a):=by
 have e:=zuZ (s:=s) (a:=a) h.inv hc
 have hln:=h.len
 have rl:=zlf (v:=v) s.made
 -- it is enough to look at the new one
 have main:∀ o:Option Nat,rval v (refs v s.made) (za8 s.made a)=o →
   ((za8 s.made a).kind=4∧(zcE s a).1=-1∧o=none∨(za8 s.made a).kind≠4∧Res v (zcE s a) o) →
   ((za8 s.made a).c<4294967296∧((za8 s.made a).kind=0∨(za8 s.made a).kind=1∧0≤(za8 s.made a).i∧(za8 s.made a).i<34∨(za8 s.made a).kind=2∧0≤(za8 s.made a).x∧(za8 s.made a).x<s.made.length∧0≤(za8 s.made a).y∧(za8 s.made a).y<s.made.length∨(za8 s.made a).kind=3∧0≤(za8 s.made a).x∧(za8 s.made a).x<s.made.length∨(za8 s.made a).kind=4)) →
   MI v (zhE s a):=fun o ho hr hm=>by
  refine⟨e.inv,by simp[zhE,hln],fun i b hb=>?_,fun i x b w hx hb hw=>?_⟩
  ·simp only[zhE] at hb
   by_cases hi:i<s.made.length
   ·rw[List.getElem?_append_left hi] at hb
    exact h.ok i b hb
   ·have hl:=(List.getElem?_eq_some_iff.1 hb).1
    simp at hl
    obtain rfl:i=s.made.length:=by omega
    simp at hb
    subst hb
    exact hm
  ·simp only[zhE] at hx hb hw ⊢
   rw[zs7,ho] at hw
   by_cases hi:i<s.made.length
   ·rw[List.getElem?_append_left hi] at hb
    rw[List.getElem?_append_left (by omega)] at hx
    rw[List.getElem?_append_left (by omega)] at hw
    rcases h.rel i x b w hx hb hw with h1|⟨h1,n,h2,h3,h4⟩
    ·exact .inl h1
    ·exact .inr ⟨h1,n,h2,Nat.lt_of_lt_of_le h3 e.pre.length_le,by rw[←h4]; exact zeo e h3⟩
   ·have hl:=(List.getElem?_eq_some_iff.1 hb).1
    simp at hl
    obtain rfl:i=s.made.length:=by omega
    simp at hb
    rw[List.getElem?_append_right (by omega),hln,Nat.sub_self] at hx
    rw[List.getElem?_append_right (by omega),rl,Nat.sub_self] at hw
    simp at hx hw
    subst hb; subst hx; subst hw
    rcases hr with h1|⟨h1,n,h2,h3,h4⟩
    ·exact .inl h1
    ·exact .inr ⟨h1,n,h2,h3,h4⟩
 have none4:za8 s.made a=noMd→(zcE s a).1=-1→MI v (zhE s a):=fun h1 h2=>by
  refine main none (by rw[h1]; rfl) (.inl ⟨by rw[h1]; rfl,h2,rfl⟩) ⟨by rw[h1]; exact(by decide:(0:Nat)<4294967296),by rw[h1]; exact .inr (.inr (.inr (.inr rfl)))⟩
 by_cases k0:a.kind=0
 ·have hn:za8 s.made a=⟨0,0,0,0,0,a.c⟩:=by rw[za8,if_pos k0]
  have hR:zcE s a=putN s.L (zat (a.c::zae 34)):=by rw[zcE,if_pos k0]
  refine main (some a.c) (by rw[hn]; rfl) (.inr ⟨by rw[hn]; simp,by rw[hR]; exact zjT h.inv hv hc⟩) ⟨by rw[hn]; exact hc,by rw[hn]; exact .inl rfl⟩
 by_cases k1:a.kind=1
 ·have hR:zcE s a=varN s.L a.i:=by rw[zcE,if_neg k0,if_pos k1]
  by_cases hi:0≤a.i∧a.i<34
  ·have hn:za8 s.made a=⟨1,a.i,0,0,0,0⟩:=by rw[za8,if_neg k0,if_pos ⟨k1,hi⟩]
   refine main (some (v[a.i.toNat]?.getD 0)) (by rw[hn]; rfl) (.inr ⟨by rw[hn]; simp,by rw[hR]; exact zmI h.inv hv hvw hi.1 hi.2⟩) ⟨by rw[hn]; exact(by decide:(0:Nat)<4294967296),by rw[hn]; exact .inr (.inl ⟨rfl,hi⟩)⟩
  ·refine none4 ?_ (by rw[hR,varN,if_neg hi])
   rw[za8,if_neg k0,if_neg (fun hh=>hi hh.2),if_neg (by omega),if_neg (by omega)]
 by_cases k2:a.kind=2
 ·have hR:zcE s a=bAlu s.L a.op (atI s.ids a.x) (atI s.ids a.y):=by rw[zcE,if_neg k0,if_neg k1,if_pos k2]
  by_cases hall:(doW a.op 0 1).2=true∧zbQ s.made a.x=true∧zbQ s.made a.y=true
  ·obtain⟨hk,hx,hy⟩:=hall
   have hn:za8 s.made a=⟨2,0,a.op,a.x,a.y,0⟩:=by rw[za8,if_neg k0,if_neg (fun hh=>k1 hh.1),if_pos ⟨k2,hk,hx,hy⟩]
   obtain⟨nx,mx,ex,lx,ax,bx,vx⟩:=h.there hx
   obtain⟨ny,my,ey,ly,ay,b_y,vy⟩:=h.there hy
   have r:=zmH (v:=v) (kind:=a.op) (x:=atI s.ids a.x) (y:=atI s.ids a.y) h.inv hv hvw hk (by rw[ax]; simp[hasI]; exact bx) (by rw[ay]; simp[hasI]; exact b_y)
   rw[ax,ay,vx,vy] at r
   refine main (aluV a.op (refs v s.made)[nx]?.join (refs v s.made)[ny]?.join) ?_ (.inr ⟨by rw[hn]; simp,by rw[hR,ax,ay]; exact r⟩) ⟨by rw[hn]; exact(by decide:(0:Nat)<4294967296),by rw[hn]; exact .inr (.inr (.inl ⟨rfl,by simp; omega,by simp; omega,by simp; omega,by simp; omega⟩))⟩
   rw[hn,ex,ey]; rfl
  ·refine none4 ?_ ?_
   ·rw[za8,if_neg k0,if_neg (fun hh=>k1 hh.1),if_neg (fun hh=>hall hh.2),if_neg (by omega)]
   ·rw[hR,zwA]
    rintro⟨g1,g2,g3⟩
    refine hall ⟨g1,?_,?_⟩
    ·cases e:zbQ s.made a.x with
     | true=>rfl
     | false=>rw[h.not_there e] at g2; cases g2
    ·cases e:zbQ s.made a.y with
     | true=>rfl
     | false=>rw[h.not_there e] at g3; cases g3
 by_cases k3:a.kind=3
 ·have hR:zcE s a=bNeg s.L (atI s.ids a.x):=by rw[zcE,if_neg k0,if_neg k1,if_neg k2,if_pos k3]
  cases hx:zbQ s.made a.x with
  | true =>
   have hn:za8 s.made a=⟨3,0,0,a.x,0,0⟩:=by rw[za8,if_neg k0,if_neg (fun hh=>k1 hh.1),if_neg (fun hh=>k2 hh.1),if_pos ⟨k3,hx⟩]
   obtain⟨nx,mx,ex,lx,ax,bx,vx⟩:=h.there hx
   have r:=zqO (v:=v) (x:=atI s.ids a.x) h.inv hv hvw (by rw[ax]; simp[hasI]; exact bx)
   rw[ax,vx] at r
   refine main (((refs v s.made)[nx]?.join).map negW) ?_ (.inr ⟨by rw[hn]; simp,by rw[hR,ax]; exact r⟩) ⟨by rw[hn]; exact(by decide:(0:Nat)<4294967296),by rw[hn]; exact .inr (.inr (.inr (.inl ⟨rfl,by simp; omega,by simp; omega⟩)))⟩
   rw[hn,ex]; rfl
  | false =>
   refine none4 ?_ ?_
   ·rw[za8,if_neg k0,if_neg (fun hh=>k1 hh.1),if_neg (fun hh=>k2 hh.1),if_neg (by simp[hx])]
   ·rw[hR,bNeg,if_neg (by simp[h.not_there hx])]
 ·refine none4 ?_ ?_
  ·rw[za8,if_neg k0,if_neg (fun hh=>k1 hh.1),if_neg (fun hh=>k2 hh.1),if_neg (fun hh=>k3 hh.1)]
  ·rw[zcE,if_neg k0,if_neg k1,if_neg k2,if_neg k3]
theorem MI.zero:MI v ⟨[],[],[]⟩:=⟨Inv.nil,rfl,fun i a h=>by simp at h,fun i x a o h=>by simp at h⟩
theorem MI.all(hv:v.length=34)(hvw:∀ c∈v,c<4294967296):∀(l:List Md) {s:MS},MI v s→(∀ a∈l,a.c<4294967296)→MI v (zwH s l)
 | [],_,h,_=>h
 | a::l,s,h,hc=>MI.all hv hvw l (h.step hv hvw (hc a (by simp))) fun x hx=>hc x (by simp[hx])
end Go.Ev
