/- One try of decide.Decide. -/
import Derived.Test.YtogjnjnabikdpaaGreatDoorLiveCW
import Derived.KernelRfl
import Derived.Test.YtogjnjnabikdpaaGreatDoorEvInsCW
import Derived.Test.YtogjnjnabikdpaaGreatDoorEvSrcCW
set_option linter.unusedSimpArgs false
set_option linter.unusedVariables false
set_option maxHeartbeats 4000000
set_option maxRecDepth 10000
namespace Go.Ev
open Go Go.RowKit
variable {G:Tbl}
def ansC(c:Int):Option (List Nat)→List V
 | some r=>.int .i64 c::((stO r).cs++(ofW (r.drop 18)).cs)
 | none=>.int .i64 c::(zad .u32 (zae 20)++zad .u64 (zae 7))
def zb3:SCode:=.region 1 [⟨some 13,.alloc 0 (zad .u32 (zae 34)),none⟩,⟨none,.store 34 (.t 13) (.t 46),none⟩]
def zb4:SCode:=.block 1 (.seq (.region 2 [⟨some 48,.load 34 true false (.t 13),none⟩,⟨some 49,.pcall 294 [.t 48],none⟩,⟨some 47,.mv (.t 49),none⟩,⟨some 50,.ext 0 (.t 47),none⟩,⟨some 51,.ext 1 (.t 47),none⟩,⟨some 14,.alloc 0 (zad .u32 (zae 18)),none⟩,
 ⟨some 15,.alloc 1 [.int .u32 0,.int .u32 0,.int .u64 0,.int .u64 0,.int .u64 0,.int .u64 0,.int .u64 0,.int .u64 0,.int .u64 0],none⟩,⟨none,.store 18 (.t 14) (.t 50),none⟩,⟨none,.store 9 (.t 15) (.t 51),none⟩])
 (.seq (.keep [3,4,5,6,7,14,15]) (.seq (.region 0 [⟨some 52,.load 1 false false (.t 3),none⟩,⟨some 53,.load 1 false false (.t 4),none⟩,⟨some 54,.load 1 false false (.t 5),none⟩,⟨some 55,.load 18 true false (.t 14),none⟩,⟨some 56,.load 9 true false (.t 15),none⟩,
  ⟨some 57,.pcall 308 [.t 52,.t 53,.t 54,.t 55,.t 56],none⟩]) (.seq (.keep [6,7,14,15,57]) (.cond (.t 57) (.seq (.region 0 [⟨some 58,.load 18 true false (.t 14),none⟩,⟨some 59,.load 9 true false (.t 15),none⟩,
   ⟨some 60,.build (ansC 0 none) [(0,1,.c (.int .i64 1)),(1,18,.t 58),(19,9,.t 59)],none⟩,⟨none,.store 28 (.t 6) (.t 60),none⟩,⟨none,.store 1 (.t 7) (.c (.int .i64 0)),none⟩]) .ret) .skip)))))
def tryE:List (Nat×V):=[(3,.ptr 0 0),(4,.ptr 1 0),(5,.ptr 2 0),(6,.ptr 3 0),(7,.ptr 4 0)]
structure TryH (N:Heap) (v w:List In4) (live:Nat):Prop where
 b0:N[0]?=some (some (.cells [.vs (IL v) .no]))
 b1:N[1]?=some (some (.cells [.vs (IL w) .no]))
 b2:N[2]?=some (some (.cells [.int .u32 live]))
 b3:N[3]?=some (some (.cells (ansC 0 none)))
 b4:N[4]?=some (some (.cells [.int .i64 0]))
 lo:N[14]?=some (some (.loop tryE [46] zb3 zb4 .ready))
 shut:za7 N
theorem TryH.app{N:Heap}{v w:List In4}{live:Nat}(h:TryH N v w live){X:Heap}(hX:∀ n,X.map (Option.map (Blk.cl n))=X):TryH (N++X) v w live:=by
 have lt:=(List.getElem?_eq_some_iff.1 h.lo).1
 refine⟨?_,?_,?_,?_,?_,?_,h.shut.app hX⟩
 all_goals rw[List.getElem?_append_left (by omega)]
 ·exact h.b0
 ·exact h.b1
 ·exact h.b2
 ·exact h.b3
 ·exact h.b4
 ·exact h.lo
def hitH(N:Heap)(r:List Nat):Heap:=((N.set 3 (some (.cells (ansC 1 (some r))))).set 4 (some (.cells [.int .i64 0]))).set 14 (some (.loop tryE [46] zb3 zb4 (.done .ret)))
theorem ztx{N X:Heap}{r:List Nat}(h:14<N.length):hitH (N++X) r=hitH N r++X:=by
 unfold hitH
 rw[List.set_append_left _ _ (by omega),List.set_append_left _ _ (by simp; omega),List.set_append_left _ _ (by simp; omega)]
theorem zjo{N:Heap}(h:za7 N)(hl:14<N.length)(r:List Nat):za7 (hitH N r):=by
 intro m hm
 have hm':N.length≤m:=by simpa[hitH] using hm
 have ha:clL m (ansC 1 (some r))=ansC 1 (some r):=by simp[ansC,zan,V.cl,St.cs,Da.cs,zad,Function.comp_def]
 unfold hitH
 rw[List.map_set,List.map_set,List.map_set,h m hm']
 have hle:(Blk.loop tryE [46] zb3 zb4 (.done .ret)).cl m=.loop tryE [46] zb3 zb4 (.done .ret):=by
  simp[Blk.cl,tryE,V.cl,show 0<m by omega,show 1<m by omega,show 2<m by omega,show 3<m by omega,show 4<m by omega]
 have hla:(Blk.cells (ansC 1 (some r))).cl m=.cells (ansC 1 (some r)):=by rw[Blk.cl,ha]
 have hl4:(Blk.cells [V.int .i64 0]).cl m=.cells [.int .i64 0]:=by simp[Blk.cl,clL,V.cl]
 simp only[Option.map_some,hle,hla,hl4]
theorem zrK[HasWd G][HasNeg G][HasIns G][HasCheck G][HasData G][HasWith G][HasStep G][HasWRight G][HasWinRun G][HasWinAsg G][HasWinState G][HasDecDf G]
  {N:Heap} {v w:List In4} {live:Nat} (h:TryH N v w live) (hf:v.length≤maxLen) (hg:w.length≤maxLen) (hk:∀ x∈v,x.k<4294967296) (hkw:∀ x∈w,x.k<4294967296) (hlv:live<4294967296)
  (hv:winB v=true) (hw:winB w=true) {r:List Nat} (hr:r.length=34) (hr':∀ x∈r,x<4294967296) {t:Bool} (ht:zfc v w live (stO r) (ofW (r.drop 18))=t) :
  YS G 14 [.agg (zad .u32 r)] N (!t) (if t=true then hitH N r else N):=by
 have lt:=(List.getElem?_eq_some_iff.1 h.lo).1
 obtain⟨b,H',hy,rfl,rfl⟩:=zuZ (R:=fun b H'=>b=(!t)∧H'=if t=true then hitH N r else N) (G:=G) (args:=[.agg (zad .u32 r)]) h.lo rfl (by
  have rt:=zaj (k:=.u32) hr
  have rd:(zad .u32 r).drop 34=[]:=List.drop_eq_nil_of_le (by simp[hr])
  have kk:∀ r:Heap,(N++r)[N.length]?=r[0]?:=fun r=>apn0 rfl
  have k0:∀(r:Heap) x,(N++r).set N.length x=N++r.set 0 x:=fun r x=>zbU rfl x
  have l14:∀ r:Heap,(N++r)[14]?=some (some (.loop tryE [46] zb3 zb4 .ready)):=fun r=>by rw[List.getElem?_append_left lt]; exact h.lo
  simp[zb3,tryE,putP,kk,k0,hr,rt,rd]
  refine⟨_,_,_,_,l14 _,?_⟩
  obtain⟨B,hB⟩:∃ B,B=N.set 14 (some (.loop tryE [46] zb3 zb4 .busy)):=⟨_,rfl⟩
  have nB:B.length=N.length:=by rw[hB]; simp
  rw[List.set_append_left _ _ lt,←hB]
  have bk0:∀ r:Heap,(B++r)[N.length]?=r[0]?:=fun r=>apn0 nB
  have bk1:∀ r:Heap,(B++r)[N.length+1]?=r[1]?:=fun r=>apnk nB 1
  have bk2:∀ r:Heap,(B++r)[N.length+2]?=r[2]?:=fun r=>apnk nB 2
  have bs1:∀(r:Heap) x,(B++r).set (N.length+1) x=B++r.set 1 x:=fun r x=>zcB nB 1 x
  have bs2:∀(r:Heap) x,(B++r).set (N.length+2) x=B++r.set 2 x:=fun r x=>zcB nB 2 x
  have bk2':∀ r:Heap,(B++r)[N.length+1+1]?=r[2]?:=bk2
  have bs2':∀(r:Heap) x,(B++r).set (N.length+1+1) x=B++r.set 2 x:=bs2
  have g2:∀(a b c:Option Blk) (r:Heap) h,(B++a::b::c::r)[N.length+1+1]'h=c:=fun a b c r h=>(List.getElem?_eq_some_iff.1 (bk2 (a::b::c::r))).2
  have look:∀{p:Nat} {c:List V},N[p]?=some (some (.cells c))→p≠14→∀ r:Heap,(B++r)[p]?=some (some (.cells c)):=fun{p c} hp hne r=>by
   rw[List.getElem?_append_left (by rw[nB]; exact(List.getElem?_eq_some_iff.1 hp).1),hB,List.getElem?_set_ne (Ne.symm hne)]; exact hp
  have q0:=look h.b0 (by decide)
  have q1:=look h.b1 (by decide)
  have q2:=look h.b2 (by decide)
  have q3:=look h.b3 (by decide)
  have q0':∀(r:Heap) h,(B++r)[0]'h=some (.cells [.vs (IL v) .no]):=fun r h=>(List.getElem?_eq_some_iff.1 (q0 r)).2
  have q1':∀(r:Heap) h,(B++r)[1]'h=some (.cells [.vs (IL w) .no]):=fun r h=>(List.getElem?_eq_some_iff.1 (q1 r)).2
  have q2':∀(r:Heap) h,(B++r)[2]'h=some (.cells [.int .u32 live]):=fun r h=>(List.getElem?_eq_some_iff.1 (q2 r)).2
  have q3':∀(r:Heap) h,(B++r)[3]'h=some (.cells (ansC 0 none)):=fun r h=>(List.getElem?_eq_some_iff.1 (q3 r)).2
  have hso:=zo0 hr hr'
  have hdo:=zjW (w:=r.drop 18) (by simp[hr]) (fun x hx=>hr' x (List.mem_of_mem_drop hx))
  have hst:=zpG (G:=G) r hr hr'
  have hdi:=zre (G:=G) v w live (stO r) (ofW (r.drop 18)) hf hg hk hkw hlv hso hdo
  rw[hv,hw,ht] at hdi
  have sl:=zis hso
  have dl:=zkC hdo
  have hans:ansC 1 (some r)=.int .i64 1::((stO r).cs++(ofW (r.drop 18)).cs):=rfl
  obtain⟨S,hS⟩:∃ S,S=(stO r).cs:=⟨_,rfl⟩
  obtain⟨D,hD⟩:∃ D,D=(ofW (r.drop 18)).cs:=⟨_,rfl⟩
  have Sk:∀ n,clL n S=S:=fun n=>by rw[hS]; exact cs_cl _ n
  have Dk:∀ n,clL n D=D:=fun n=>by rw[hD]; exact zea _ n
  have Sn:S.map V.nf1=S:=by rw[hS]; exact zi6 _
  have Dn:D.map V.nf1=D:=by rw[hD]; exact zhr _
  simp only[FL,SV,DV,Bool.true_and] at hst hdi
  rw[←hS,←hD] at hst hdi hans
  rw[←hS] at sl
  rw[←hD] at dl
  have St:=List.take_of_length_le (i:=18) (l:=S) (by omega)
  have Dt:=List.take_of_length_le (i:=9) (l:=D) (by omega)
  have Sd:S.drop 18=[]:=List.drop_eq_nil_of_le (by omega)
  have Dd:D.drop 9=[]:=List.drop_eq_nil_of_le (by omega)
  obtain⟨A0,hA0⟩:∃ A0,A0=ansC 0 none:=⟨_,rfl⟩
  have lA0:A0.length=28:=by rw[hA0]; rfl
  simp only[←hA0] at q3 q3'
  simp[zb4,nB,bk0,bk1,bk2,bs1,bs2,hr,rt,rd,←hA0]
  refine zab hst ?_
  simp[nB,bk0,bk1,bk2,bs1,bs2,sl,dl,St,Dt,Sd,Dd,Sk,Dk,Sn,Dn,q0,q1,q2,q3,q0',q1',q2',q3',zaa]
  simp[nB,bk0,bk1,bk2,bk2',g2,bs1,bs2,bs2',sl,dl,St,Dt,Sd,Dd,Sk,Dk,Sn,Dn,q0,q1,q2,q3,q0',q1',q2',q3',zaa]
  refine zab hdi ?_
  have B14:∀ r:Heap,(B++r)[14]?=some (some (.loop tryE [46] zb3 zb4 .busy)):=fun r=>by
   rw[List.getElem?_append_left (by omega),hB,List.getElem?_set_self (by omega)]
  cases t with
  | false =>
   have fin0:∀ r:Heap,zac N.length ((B++r).set 14 (some (.loop tryE [46] zb3 zb4 .ready)))=N:=fun r=>by
    rw[List.set_append_left _ _ (by omega),hB,List.set_set,zew h.lo]
    exact h.shut.back r
   simp
   exact⟨_,_,_,_,B14 _,fin0 _⟩
  | true =>
   simp[nB,bk0,bk1,bk2,bk2',g2,bs1,bs2,bs2',sl,dl,St,Dt,Sd,Dd,Sk,Dk,Sn,Dn,q0,q1,q2,q3,q0',q1',q2',q3',zaa]
   have dr:(S++A0.drop 19).drop 27=[]:=List.drop_eq_nil_of_le (by simp; omega)
   have ln:(V.int .i64 1::(S++D)).length=28:=by simp; omega
   have tn:(S++D).take 27=S++D:=List.take_of_length_le (by simp; omega)
   have dn:A0.drop 28=[]:=List.drop_eq_nil_of_le (by omega)
   have q4:=look h.b4 (by decide)
   have ts3:∀(r:Heap) x,(B++r).set 3 x=B.set 3 x++r:=fun r x=>List.set_append_left _ _ (by omega)
   have ts4:∀(r:Heap) y x,(B.set 3 y++r).set 4 x=(B.set 3 y).set 4 x++r:=fun r y x=>List.set_append_left _ _ (by simp; omega)
   have tg4':∀(r:Heap) y,(B.set 3 y++r)[4]?=some (some (.cells [.int .i64 0])):=fun r y=>by
    have:=q4 []
    rw[List.getElem?_append_left (by simp; omega),List.getElem?_set_ne (by decide)]
    simpa using this
   have tg4'':∀(r:Heap) y h,(B.set 3 y++r)[4]'h=some (.cells [.int .i64 0]):=fun r y h=>(List.getElem?_eq_some_iff.1 (tg4' r y)).2
   simp[lA0,dr,dn,tn,nB,sl,dl,q3,q3',ts3,ts4,tg4',tg4'',St,Sd,Dt,Dd]
   refine⟨tryE,[46],zb3,zb4,?_,?_⟩
   ·have:=B14 []
    rw[List.append_nil] at this
    rw[List.getElem?_append_left (by simp; omega),List.getElem?_set_ne (by decide),List.getElem?_set_ne (by decide)]
    exact this
   ·have he:((B.set 3 (some (Blk.cells (V.int IntKind.i64 1::(S++D))))).set 4 (some (Blk.cells [V.int IntKind.i64 0]))).set 14 (some (.loop tryE [46] zb3 zb4 (.done .ret)))=hitH N r:=by
     rw[hB,←hans,List.set_comm _ _ (show(14:Nat)≠3 by decide),List.set_comm _ _ (show(14:Nat)≠4 by decide),List.set_set]
     rfl
    rw[List.set_append_left _ _ (by simp; omega),he]
    have:=(zjo h.shut lt r).back [some (Blk.cells (zad .u32 r)),some (Blk.cells S),some (Blk.cells D)]
    rwa[show(hitH N r).length=N.length by simp[hitH]] at this)
 exact hy
end Go.Ev
/- decide.Decide. -/
namespace Go.Ev
open Go Go.RowKit
variable {G:Tbl}
noncomputable def decR(v w:List In4)(live:Nat):Int×Option (List Nat) :=
 if(winB v&&winB w)=true then
  if zcX (winV [] v).p (winV (winV [] v).L w).p (winV [] v).st (winV (winV [] v).L w).st live=true then(0,none)
  else match(zbu (winV (winV [] v).L w).L (winV [] v).p (winV (winV [] v).L w).p live).find? fun r=>zfc v w live (stO r) (ofW (r.drop 18)) with
   | some r=>(1,some r)
   | none=>(2,none)
 else(0,none)
def znM(a b c d e:List V):Heap:=[some (.cells a),some (.cells b),some (.cells c),some (.cells d),some (.cells e),some (.map []),some (.cells [.vs [] (.own 7),.mp 5]),some (.zone 0)]
theorem zty{a b c d e:List V}(ha:∀ n,clL n a=a)(hb:∀ n,clL n b=b)(hc:∀ n,clL n c=c)(hd:∀ n,clL n d=d)(he:∀ n,clL n e=e):Bk (znM a b c d e) 6 7 5 []:=by
 refine⟨rfl,rfl,rfl,fun n hn=>?_,fun a h=>(by cases h),by decide⟩
 simp only[znM,List.length_cons,List.length_nil] at hn
 simp[znM,Blk.cl,ha,hb,hc,hd,he,clL,V.cl,Tk.cl,show 7<n by omega,show 5<n by omega]
theorem zvp[HasSymNew G](a b c d e:List V):Big G (.F 256 [] [some (.cells a),some (.cells b),some (.cells c),some (.cells d),some (.cells e)] (.ptr 6 0) [some (.cells a),some (.cells b),some (.cells c),some (.cells d),some (.cells e),some (.map []),some (.cells [.vs [] .full,.mp 5])]):=by
 refine F_of HasSymNew.h_sym_New (Nat.le_of_ble_eq_true rfl) ?_
 simp
section
variable {H:Heap} {b z m:Nat} {L:List Nd}
noncomputable def ofC(L:List Nd)(w:List In4):List V:=if winB w=true then vcs (winV L w).p (winV L w).st .no else vcs (List.replicate 18 0) [] .full
noncomputable def ofL(L:List Nd)(w:List In4):List Nd:=if winB w=true then(winV L w).L else L
theorem zof[HasWd G][HasNeg G][HasIns G][HasCheck G][HasWRight G][HasAffine G][HasBits G][HasSym G][HasWinOf G](w:List In4)(h:Bk H b z m L)(hi:Inv L)(hs:L.length≤800000)(hf:w.length≤maxLen)(hk:∀ x∈w,x.k<4294967296) :
  SF G 296 [.ptr b 0,FL w] H (.tup [.agg (ofC L w),.bool (winB w)]) (upd H b z m (ofL L w)):=by
 cases hw:winB w with
 | true =>
  have:=zxC (G:=G) w h hi hs hf hk hw
  simpa only[ofC,ofL,hw,if_true] using this
 | false =>
  have:=zxB (G:=G) w h hf hk hw
  simpa only[ofC,ofL,hw,Bool.false_eq_true,if_false,h.upd_self] using this
theorem zme(hi:Inv L){w:List In4}(hk:∀ x∈w,x.k<4294967296):(ofC L w).length=19:=by
 unfold ofC
 split
 ·exact zeD (zeE hi w hk).len
 ·rfl
theorem zog(w:List In4)(n:Nat):clL n (ofC L w)=ofC L w:=by
 unfold ofC
 split<;>(rw[zan,vcs]; simp[za6,Function.comp_def,V.cl,Tk.cl])
theorem zpX(hi:Inv L){w:List In4}(hk:∀ x∈w,x.k<4294967296):Inv (ofL L w):=by
 unfold ofL
 split
 ·exact(zeE hi w hk).ext.inv
 ·exact hi
theorem zpY(hi:Inv L){w:List In4}(hk:∀ x∈w,x.k<4294967296):(ofL L w).length≤L.length+114:=by
 unfold ofL
 split
 ·rename_i hw
  have hw32:w.length≤32:=by simp only[winB,Bool.and_eq_true,decide_eq_true_eq] at hw; exact hw.1
  have:=(zeE hi w hk).ext.len
  omega
 ·omega
end
theorem zk3(c:Int):(ansC c none).length=28:=rfl
theorem zih(c:Int)(o:Option (List Nat))(n:Nat):clL n (ansC c o)=ansC c o:=by cases o<;>simp[ansC,zan,V.cl,St.cs,Da.cs,zad,Function.comp_def]
theorem zpZ(c:Int)(o:Option (List Nat)):(ansC c o).map V.nf1=ansC c o:=by cases o<;>simp[ansC,V.nf1,St.cs,Da.cs,zad,Function.comp_def]
theorem zrL(c:Int):(ansC c none).take 28=ansC c none:=List.take_of_length_le (by rw[zk3]; exact Nat.le_refl _)
theorem zrM(c:Int):(ansC c none).drop 28=[]:=List.drop_eq_nil_of_le (by rw[zk3]; exact Nat.le_refl _)
theorem zvq[HasDec G](H:Heap)(b live:Nat)(X1 X2:List V)(k1:∀ n,clL n X1=X1)(k2:∀ n,clL n X2=X2)(m1:X1.map V.nf1=X1)(m2:X2.map V.nf1=X2) :
  Big G (.F 311 [.ptr b 0,.agg X1,.agg X2,.int .u32 live] H (.fn 310 [.ptr (H.length+3) 0,.ptr H.length 0,.ptr (H.length+1) 0,.ptr (H.length+2) 0])
   (H++[some (.cells [.ptr b 0]),some (.cells X1),some (.cells X2),some (.cells [.int .u32 live])])):=by
 refine F_of HasDec.h_decide_tries (Nat.le_of_ble_eq_true rfl) ?_
 simp[m1,m2,ap0,apk,set0,setk]
theorem zjp[HasWd G][HasNeg G][HasIns G][HasCheck G][HasData G][HasWith G][HasStep G][HasWRight G][HasWinRun G][HasWinAsg G][HasWinState G][HasWinOf G][HasAffApart G][HasAffine G][hBA:HasBitsA G][HasSymNew G][HasSym G][HasSymApart G][HasDecDf G][HasDec G]
  (v w:List In4) (live:Nat) (hf:v.length≤maxLen) (hg:w.length≤maxLen) (hk:∀ x∈v,x.k<4294967296) (hkw:∀ x∈w,x.k<4294967296) (hlv:live<4294967296) :
  FP G 312 [FL v,FL w,.int .u32 live] (.tup [.agg (ansC (decR v w live).1 (decR v w live).2),.int .i64 (if(winB v&&winB w)=true then 0 else 1)]):=by
 haveI:HasBits G:=hBA.toHasBits
 refine zak HasDec.h_decide_Decide (Nat.le_of_ble_eq_true rfl) ?_
 obtain⟨Z,hZ⟩:∃ Z:List V,Z=vcs (List.replicate 18 0) [] .full:=⟨_,rfl⟩
 have lZ:Z.length=19:=by rw[hZ]; rfl
 have drop19:Z.drop 19=[]:=List.drop_eq_nil_of_le (by omega)
 have hZz:[V.int .i64 0,.int .i64 0,.int .i64 0,.int .i64 0,.int .i64 0,.int .i64 0,.int .i64 0,.int .i64 0,.int .i64 0,.int .i64 0,.int .i64 0,.int .i64 0,.int .i64 0,.int .i64 0,.int .i64 0,.int .i64 0,.int .i64 0,.int .i64 0,.vs [] .full]=Z:=by rw[hZ]; rfl
 obtain⟨A0,hA0⟩:∃ A0:List V,A0=ansC 0 none:=⟨_,rfl⟩
 have hA0z:V.int .i64 0::(zad .u32 (zae 20)++zad .u64 (zae 7))=A0:=by rw[hA0]; rfl
 have lA0:A0.length=28:=by rw[hA0]; rfl
 have kA0:∀ n,clL n A0=A0:=fun n=>by rw[hA0]; simp[ansC,zan,V.cl,zad,Function.comp_def]
 have hB:=zty (a:=[.vs (IL v) .no]) (b:=[.vs (IL w) .no]) (c:=[.int .u32 live]) (d:=A0) (e:=[.int .i64 0]) (fun n=>by simp[clL,V.cl,Tk.cl]) (fun n=>by simp[clL,V.cl,Tk.cl]) (fun n=>by simp[clL,V.cl]) kA0 (fun n=>by simp[clL,V.cl])
 obtain⟨H0,hH0⟩:∃ H0,H0=znM [.vs (IL v) .no] [.vs (IL w) .no] [.int .u32 live] A0 [.int .i64 0]:=⟨_,rfl⟩
 rw[←hH0] at hB
 have n0:H0.length=8:=by rw[hH0]; rfl
 have t0:∀ r,zac 8 (H0++r)=H0:=fun r=>by have:=hB.shut.back r; rwa[n0] at this
 have a8:∀ r:Heap,(H0++r)[8]?=r[0]?:=fun r=>apn0 n0
 have a9:∀ r:Heap,(H0++r)[9]?=r[1]?:=fun r=>apnk n0 1
 have b8:∀(r:Heap) x,(H0++r).set 8 x=H0++r.set 0 x:=fun r x=>zbU n0 x
 have b9:∀(r:Heap) x,(H0++r).set 9 x=H0++r.set 1 x:=fun r x=>zcB n0 1 x
 have o0:∀ r:Heap,(H0++r)[0]?=some (some (.cells [.vs (IL v) .no])):=fun r=>by rw[hH0]; rfl
 have o1:∀ r:Heap,(H0++r)[1]?=some (some (.cells [.vs (IL w) .no])):=fun r=>by rw[hH0]; rfl
 have o3:∀ r:Heap,(H0++r)[3]?=some (some (.cells A0)):=fun r=>by rw[hH0]; rfl
 have o4:∀ r:Heap,(H0++r)[4]?=some (some (.cells [.int .i64 0])):=fun r=>by rw[hH0]; rfl
 have hBn:Bk (H0++[none]) 6 7 5 []:=hB.app fun n=>by simp
 simp[FL,hA0z]
 refine zho (zvp [.vs (IL v) .no] [.vs (IL w) .no] [.int .u32 live] A0 [.int .i64 0]) (by simp) ?_
 simp
 rw[show([some (.cells [.vs (IL v) .no]),some (.cells [.vs (IL w) .no]),some (.cells [.int .u32 live]),some (.cells A0),some (.cells [.int .i64 0]),some (.map []),some (.cells [.vs [] (.own 7),.mp 5]),some (.zone 0),none]:Heap)=H0++[none] from by rw[hH0]; rfl]
 obtain⟨L1,hL1⟩:∃ L1,L1=ofL [] v:=⟨_,rfl⟩
 obtain⟨X1,hX1⟩:∃ X1,X1=ofC [] v:=⟨_,rfl⟩
 have i1:Inv L1:=by rw[hL1]; exact zpX Inv.nil hk
 have z1:L1.length≤114:=by rw[hL1]; simpa using zpY Inv.nil hk
 have x1:X1.length=19:=by rw[hX1]; exact zme Inv.nil hk
 have c1:∀ n,clL n X1=X1:=fun n=>by rw[hX1]; exact zog v n
 have hof:=zof (G:=G) v hBn Inv.nil (by decide) hf hk
 rw[←hL1,←hX1,hB.upd_app] at hof
 obtain⟨U,hU⟩:∃ U,U=upd H0 6 7 5 L1:=⟨_,rfl⟩
 have hUB:Bk U 6 7 5 L1:=by rw[hU]; exact hB.to i1 (by omega)
 rw[←hU] at hof
 have nU:U.length=8:=by rw[hU,zbe,n0]
 have keepU:∀{p:Nat} {c:List V},(H0++[])[p]?=some (some (.cells c))→p≠6→U[p]?=some (some (.cells c)):=fun{p c} hp hne=>by
  rw[hU]; exact znx hB (by simpa using hp) hne
 obtain⟨L2,hL2⟩:∃ L2,L2=ofL L1 w:=⟨_,rfl⟩
 obtain⟨X2,hX2⟩:∃ X2,X2=ofC L1 w:=⟨_,rfl⟩
 have i2:Inv L2:=by rw[hL2]; exact zpX i1 hkw
 have z2:L2.length≤228:=by rw[hL2]; have:=zpY i1 hkw; omega
 have x2:X2.length=19:=by rw[hX2]; exact zme i1 hkw
 have c2:∀ n,clL n X2=X2:=fun n=>by rw[hX2]; exact zog w n
 have hUX:Bk (U++[some (.cells X1),none]) 6 7 5 L1:=hUB.app fun n=>by simp[Blk.cl,c1]
 have hof2:=zof (G:=G) w hUX i1 (by omega) hg hkw
 rw[←hL2,←hX2,hUB.upd_app] at hof2
 obtain⟨T,hT⟩:∃ T,T=upd U 6 7 5 L2:=⟨_,rfl⟩
 have hTB:Bk T 6 7 5 L2:=by rw[hT]; exact hUB.to i2 (by omega)
 rw[←hT] at hof2
 have nT:T.length=8:=by rw[hT,zbe,nU]
 have keepT:∀{p:Nat} {c:List V},(H0++[])[p]?=some (some (.cells c))→p≠6→T[p]?=some (some (.cells c)):=fun{p c} hp hne=>by
  rw[hT]; exact znx hUB (keepU hp hne) hne
 have apl:∀{A:Heap} {p:Nat} {c:List V},A[p]?=some (some (.cells c))→∀ r:Heap,(A++r)[p]?=some (some (.cells c)):=fun{A p c} hp r=>by
  rw[List.getElem?_append_left (List.getElem?_eq_some_iff.1 hp).1]; exact hp
 have u1:=apl (keepU (o1 []) (by decide))
 have u1':∀(r:Heap) h,(U++r)[1]'h=some (.cells [.vs (IL w) .no]):=fun r h=>(List.getElem?_eq_some_iff.1 (u1 r)).2
 have q0:=apl (keepT (o0 []) (by decide))
 have q1:=apl (keepT (o1 []) (by decide))
 have q2:=apl (keepT (c:=[.int .u32 live]) (p:=2) (by rw[hH0]; rfl) (by decide))
 have q3:=apl (keepT (o3 []) (by decide))
 have q4:=apl (keepT (o4 []) (by decide))
 have q0':∀(r:Heap) h,(T++r)[0]'h=some (.cells [.vs (IL v) .no]):=fun r h=>(List.getElem?_eq_some_iff.1 (q0 r)).2
 have q1':∀(r:Heap) h,(T++r)[1]'h=some (.cells [.vs (IL w) .no]):=fun r h=>(List.getElem?_eq_some_iff.1 (q1 r)).2
 have q2':∀(r:Heap) h,(T++r)[2]'h=some (.cells [.int .u32 live]):=fun r h=>(List.getElem?_eq_some_iff.1 (q2 r)).2
 have q3':∀(r:Heap) h,(T++r)[3]'h=some (.cells A0):=fun r h=>(List.getElem?_eq_some_iff.1 (q3 r)).2
 have q4':∀(r:Heap) h,(T++r)[4]'h=some (.cells [.int .i64 0]):=fun r h=>(List.getElem?_eq_some_iff.1 (q4 r)).2
 have ua8:∀ r:Heap,(U++r)[8]?=r[0]?:=fun r=>apn0 nU
 have ua9:∀ r:Heap,(U++r)[9]?=r[1]?:=fun r=>apnk nU 1
 have ub8:∀(r:Heap) x,(U++r).set 8 x=U++r.set 0 x:=fun r x=>zbU nU x
 have ub9:∀(r:Heap) x,(U++r).set 9 x=U++r.set 1 x:=fun r x=>zcB nU 1 x
 have ta8:∀ r:Heap,(T++r)[8]?=r[0]?:=fun r=>apn0 nT
 have ta9:∀ r:Heap,(T++r)[9]?=r[1]?:=fun r=>apnk nT 1
 have tb8:∀(r:Heap) x,(T++r).set 8 x=T++r.set 0 x:=fun r x=>zbU nT x
 have tb9:∀(r:Heap) x,(T++r).set 9 x=T++r.set 1 x:=fun r x=>zcB nT 1 x
 have d1:X1.drop 19=[]:=List.drop_eq_nil_of_le (by omega)
 have d2:X2.drop 19=[]:=List.drop_eq_nil_of_le (by omega)
 have e1:X1.take 19=X1:=List.take_of_length_le (by omega)
 have e2:X2.take 19=X2:=List.take_of_length_le (by omega)
 simp only[FL] at hof hof2
 refine zai hof ?_
 simp[nU,ua8,ub8,hZz,lZ,drop19,x1,d1,e1,u1,u1']
 refine zai hof2 ?_
 simp[nT,ta8,ta9,tb8,tb9,hZz,lZ,drop19,x1,d1,e1,x2,d2,e2,zaa]
 have hlt:∀ p,p<8→p<T.length:=fun p hp=>by omega
 have ts3:∀(r:Heap) x,(T++r).set 3 x=T.set 3 x++r:=fun r x=>List.set_append_left _ _ (by omega)
 have ts4:∀(r:Heap) y x,(T.set 3 y++r).set 4 x=(T.set 3 y).set 4 x++r:=fun r y x=>List.set_append_left _ _ (by simp; omega)
 have tg3:∀(r:Heap) y x,((T.set 3 y).set 4 x++r)[3]?=some y:=fun r y x=>by
  rw[List.getElem?_append_left (by simp; omega),List.getElem?_set_ne (by decide),List.getElem?_set_self (by omega)]
 have tg4:∀(r:Heap) y x,((T.set 3 y).set 4 x++r)[4]?=some x:=fun r y x=>by
  rw[List.getElem?_append_left (by simp; omega),List.getElem?_set_self (by simp; omega)]
 have tg4':∀(r:Heap) y,(T.set 3 y++r)[4]?=some (some (.cells [.int .i64 0])):=fun r y=>by
  have:=q4 []
  rw[List.getElem?_append_left (by simp; omega),List.getElem?_set_ne (by decide)]
  simpa using this
 have tg4'':∀(r:Heap) y h,(T.set 3 y++r)[4]'h=some (.cells [.int .i64 0]):=fun r y h=>(List.getElem?_eq_some_iff.1 (tg4' r y)).2
 have tg3n:∀(r:Heap) y x h,((T.set 3 y).set 4 x++r)[3]'h=y:=fun r y x h=>(List.getElem?_eq_some_iff.1 (tg3 r y x)).2
 have tg4n:∀(r:Heap) y x h,((T.set 3 y).set 4 x++r)[4]'h=x:=fun r y x h=>(List.getElem?_eq_some_iff.1 (tg4 r y x)).2
 have A28:A0.take 28=A0:=List.take_of_length_le (by omega)
 have D28:A0.drop 28=[]:=List.drop_eq_nil_of_le (by omega)
 have nA0:A0.map V.nf1=A0:=by rw[hA0]; simp[ansC,zad,Function.comp_def,V.nf1]
 cases hv:winB v with
 | false =>
  have hd:decR v w live=(0,none):=by simp[decR,hv]
  simp[hd,←hA0,nT,q3,q3',lA0,ts3,ts4,A28,D28,tg3,tg4,tg4',tg4'',tg3n,tg4n,zaa,kA0,nA0]
 | true =>
 cases hw:winB w with
 | false =>
  have hd:decR v w live=(0,none):=by simp[decR,hv,hw]
  simp[hd,←hA0,nT,q3,q3',lA0,ts3,ts4,A28,D28,tg3,tg4,tg4',tg4'',tg3n,tg4n,zaa,kA0,nA0]
 | true =>
 have hXv:X1=vcs (winV [] v).p (winV [] v).st .no:=by rw[hX1,ofC,if_pos hv]
 have hLv:L1=(winV [] v).L:=by rw[hL1,ofL,if_pos hv]
 have hXw:X2=vcs (winV L1 w).p (winV L1 w).st .no:=by rw[hX2,ofC,if_pos hw]
 have hLw:L2=(winV L1 w).L:=by rw[hL2,ofL,if_pos hw]
 have k1:=zeE Inv.nil v hk
 have k2:=zeE i1 w hkw
 have hD:decR v w live=decR v w live:=rfl
 conv at hD=>rhs; rw[decR,hv,hw,if_pos (show(true&&true)=true from rfl),←hLv,←hLw]
 obtain⟨P,hP⟩:∃ P,P=(winV [] v).p:=⟨_,rfl⟩
 obtain⟨S,hS⟩:∃ S,S=(winV [] v).st:=⟨_,rfl⟩
 obtain⟨Q,hQ⟩:∃ Q,Q=(winV L1 w).p:=⟨_,rfl⟩
 obtain⟨R,hR⟩:∃ R,R=(winV L1 w).st:=⟨_,rfl⟩
 have pl:P.length=18:=by rw[hP]; exact k1.len
 have ql:Q.length=18:=by rw[hQ]; exact k2.len
 have sl:S.length≤1000000:=by
  have hw32:v.length≤32:=by simp only[winB,Bool.and_eq_true,decide_eq_true_eq] at hv; exact hv.1
  have:=k1.st
  rw[hS]; omega
 rw[←hP,←hQ,←hS,←hR] at hD
 rw[←hP,←hS] at hXv
 rw[←hQ,←hR] at hXw
 have hsa:=zv6 (G:=G) P Q S R live hlv pl ql sl
 rw[←hXv,←hXw] at hsa
 have m1:X1.map V.nf1=X1:=by rw[hXv]; simp[vcs,za6,Function.comp_def,V.nf1]
 have m2:X2.map V.nf1=X2:=by rw[hXw]; simp[vcs,za6,Function.comp_def,V.nf1]
 simp[nT,q2,q2',ta8,ta9,x1,x2,e1,e2,zaa,m1,m2,c1,c2]
 refine zab hsa ?_
 cases hsm:zcX P Q S R live with
 | true =>
  rw[hsm,if_pos rfl] at hD
  have At:V.int .i64 0::A0.tail=A0:=by rw[hA0]; rfl
  simp[hD,←hA0,nT,q3,q3',lA0,ts3,ts4,A28,D28,tg3,tg4,tg4',tg4'',tg3n,tg4n,zaa,kA0,nA0,At]
 | false =>
  rw[hsm] at hD
  simp only[Bool.false_eq_true,if_false] at hD
  simp[nT,q2,q2',ta8,ta9,x1,x2,e1,e2,zaa,m1,m2,c1,c2]
  have n10:(T++[some (Blk.cells X1),some (Blk.cells X2)]).length=10:=by simp[nT]
  have htr:=zvq (G:=G) (T++[some (Blk.cells X1),some (Blk.cells X2)]) 6 live X1 X2 c1 c2 m1 m2
  rw[n10,List.append_assoc] at htr
  refine zho htr (by simp) ?_
  simp
  subst hA0
  obtain⟨E,hE⟩:∃ E,E=T++[some (Blk.cells X1),some (Blk.cells X2),some (.cells [.ptr 6 0]),some (.cells X1),some (.cells X2),some (.cells [.int .u32 live])]:=⟨_,rfl⟩
  have nE:E.length=14:=by rw[hE]; simp[nT]
  obtain⟨HH,hHH⟩:∃ HH,HH=E++[some (Blk.loop tryE [46] zb3 zb4 .ready)]:=⟨_,rfl⟩
  have nHH:HH.length=15:=by rw[hHH]; simp[nE]
  have hHT:HH=T++[some (Blk.cells X1),some (Blk.cells X2),some (.cells [.ptr 6 0]),some (.cells X1),some (.cells X2),some (.cells [.int .u32 live]),some (Blk.loop tryE [46] zb3 zb4 .ready)]:=by rw[hHH,hE]; simp
  have hBE:Bk E 6 7 5 L2:=by
   rw[hE]
   refine hTB.app2 fun n hn=>?_
   simp[nT] at hn
   simp[Blk.cl,c1,c2,clL,V.cl,show 6<n by omega]
  have hBH:Bk HH 6 7 5 L2:=by
   rw[hHH]
   refine hBE.app2 fun n hn=>?_
   simp[nE] at hn
   simp[Blk.cl,tryE,V.cl,show 0<n by omega,show 1<n by omega,show 2<n by omega,show 3<n by omega,show 4<n by omega]
  have h14:HH[14]?=some (some (.loop tryE [46] zb3 zb4 .ready)):=by rw[hHH]; exact apn0 nE
  have hTH:TryH HH v w live:=⟨by rw[hHT]; exact q0 _,by rw[hHT]; exact q1 _,by rw[hHT]; exact q2 _,by rw[hHT]; exact q3 _,by rw[hHT]; exact q4 _,h14,hBH.shut⟩
  have h10:HH[10]?=some (some (.cells [.ptr 6 0])):=by rw[hHT]; exact apnk nT 2
  have h11:HH[11]?=some (some (.cells (vcs P S .no))):=by rw[hHT,←hXv]; exact apnk nT 3
  have h12:HH[12]?=some (some (.cells (vcs Q R .no))):=by rw[hHT,←hXw]; exact apnk nT 4
  have h13:HH[13]?=some (some (.cells [.int .u32 live])):=by rw[hHT]; exact apnk nT 5
  have htt:=zsK (G:=G) hBH i2 (id:=14) (i1:=13) (i2:=10) (i3:=11) (i4:=12) (live:=live) hlv h13 h10 h11 h12 pl ql (by omega) (hit:=fun r=>zfc v w live (stO r) (ofW (r.drop 18))) (H':=hitH HH)
   (fun r hr hh X hX=>by
    obtain⟨hr1,hr2⟩:=zhJ hr
    have:=zrK (G:=G) (hTH.app hX) hf hg hk hkw hlv hv hw hr1 hr2 hh
    simpa using this)
   (fun r hr hh X hX=>by
    obtain⟨hr1,hr2⟩:=zhJ hr
    have:=zrK (G:=G) (hTH.app hX) hf hg hk hkw hlv hv hw hr1 hr2 hh
    rw[ztx (by omega)] at this
    simpa using this)
   (fun r hr hh=>⟨by
    have:=(zjo hBH.shut (by omega) r).self
    rwa[show(hitH HH r).length=HH.length by simp[hitH]] at this,by simp[hitH]⟩)
  rw[←hE]
  have hbE:=hBE.shut.self
  rw[nE] at hbE
  have hlk:look (mkE [(3,V.ptr 0 0),(4,V.ptr 1 0),(5,V.ptr 2 0),(6,V.ptr 3 0),(7,V.ptr 4 0),(45,V.fn 310 [V.ptr 13 0,V.ptr 10 0,V.ptr 11 0,V.ptr 12 0])]) [3,4,5,6,7]=tryE:=by simp[tryE]
  cases hfd:(zbu L2 P Q live).find? (fun r=>zfc v w live (stO r) (ofW (r.drop 18))) with
  | none =>
   rw[hfd] at htt hD
   have htE:zac 14 HH=E:=by rw[hHH]; have:=hBE.shut.back [some (Blk.loop tryE [46] zb3 zb4 .ready)]; rwa[nE] at this
   refine zfe (as:=zb3) (bo:=zb4) (x:=.nx) (H2:=HH) (r:=.tup []) ?_ (by rw[nE]; exact h14) (.inl ⟨rfl,rfl⟩) ?_
   ·rw[nE]
    rw[hHH] at htt
    rw[hHH,hlk]
    exact htt
   rw[nE,htE,hE]
   simp only[] at hD
   have At:∀ c,V.int .i64 c::(ansC 0 none).tail=ansC c none:=fun c=>rfl
   simp[hD,nT,q3,q3',lA0,ts3,ts4,A28,D28,tg3,tg4,tg4',tg4'',tg3n,tg4n,zaa,kA0,nA0,At,zk3,zih,zpZ,zrL,zrM]
  | some r =>
   rw[hfd] at htt hD
   obtain⟨hr1,hr2⟩:=zhJ (List.mem_of_find?_eq_some hfd)
   have lA:(ansC 1 (some r)).length=28:=by
    have h1:=zis (zo0 hr1 hr2)
    have h2:=zkC (zjW (w:=r.drop 18) (by simp[hr1]) (fun x hx=>hr2 x (List.mem_of_mem_drop hx)))
    simp only[ansC,List.length_cons,List.length_append,h1,h2]
   obtain⟨A1,hA1⟩:∃ A1,A1=ansC 1 (some r):=⟨_,rfl⟩
   have kA1:∀ n,clL n A1=A1:=fun n=>by rw[hA1]; exact zih _ _ n
   have nA1:A1.map V.nf1=A1:=by rw[hA1]; exact zpZ _ _
   rw[←hA1] at lA
   have tA1:A1.take 28=A1:=List.take_of_length_le (by omega)
   have hEE:hitH HH r=((T.set 3 (some (.cells A1))).set 4 (some (.cells [.int .i64 0])))++[some (Blk.cells X1),some (Blk.cells X2),some (.cells [.ptr 6 0]),some (.cells X1),some (.cells X2),some (.cells [.int .u32 live]),some (.loop tryE [46] zb3 zb4 (.done .ret))]:=by
    rw[hHT,hitH,←hA1,ts3,ts4]
    rw[List.set_append_right _ _ (by simp; omega)]
    simp[nT]
   have hsh:=zjo hBH.shut (by omega) r
   have hl14:(hitH HH r)[14]?=some (some (.loop tryE [46] zb3 zb4 (.done .ret))):=by
    unfold hitH
    exact List.getElem?_set_self (by simp; omega)
   have hsh14:zac 14 (hitH HH r)=((T.set 3 (some (.cells A1))).set 4 (some (.cells [.int .i64 0])))++[some (Blk.cells X1),some (Blk.cells X2),some (.cells [.ptr 6 0]),some (.cells X1),some (.cells X2),some (.cells [.int .u32 live])]:=by
    have hmE:E.map (Option.map (Blk.cl 14))=E:=by
     have:=hbE
     unfold zac at this
     rwa[List.take_of_length_le (by omega)] at this
    have hE1:zac 14 ((E.set 3 (some (.cells A1))).set 4 (some (.cells [.int .i64 0])))=(E.set 3 (some (.cells A1))).set 4 (some (.cells [.int .i64 0])):=by
     unfold zac
     rw[List.take_of_length_le (by simp; omega),List.map_set,List.map_set,hmE]
     simp[Blk.cl,kA1,clL,V.cl]
    have hEs:(E.set 3 (some (.cells A1))).set 4 (some (.cells [.int .i64 0]))=((T.set 3 (some (.cells A1))).set 4 (some (.cells [.int .i64 0])))++[some (Blk.cells X1),some (Blk.cells X2),some (.cells [.ptr 6 0]),some (.cells X1),some (.cells X2),some (.cells [.int .u32 live])]:=by rw[hE,ts3,ts4]
    have hcut:hitH HH r=((E.set 3 (some (.cells A1))).set 4 (some (.cells [.int .i64 0])))++[some (.loop tryE [46] zb3 zb4 (.done .ret))]:=by rw[hEs,hEE]; simp
    rw[hcut,zgc hE1 (by simp; exact nE),hEs]
   refine zfe (as:=zb3) (bo:=zb4) (x:=.ret) (H2:=hitH HH r) (r:=.tup []) ?_ (by rw[nE]; exact hl14) (.inr ⟨rfl,by decide⟩) ?_
   ·rw[nE]
    rw[hlk,←hHH]
    exact htt
   rw[nE,hsh14]
   simp only[] at hD
   simp[hD,nT,lA,tA1,kA1,nA1,tg3,tg4,tg3n,tg4n,←hA1]
end Go.Ev
/- The examples of layer 18. -/
namespace Go.Ev
open Go Go.RowKit
variable {G:Tbl}
theorem dec_tells{v w:List In4}{live:Nat}(hv:winB v=true)(hw:winB w=true) :
  decR v w live=(0,none)∧zcX (winV [] v).p (winV (winV [] v).L w).p (winV [] v).st (winV (winV [] v).L w).st live=true ∨
  (∃ r,decR v w live=(1,some r)∧r∈zbu (winV (winV [] v).L w).L (winV [] v).p (winV (winV [] v).L w).p live∧zfc v w live (stO r) (ofW (r.drop 18))=true∧zcX (winV [] v).p (winV (winV [] v).L w).p (winV [] v).st (winV (winV [] v).L w).st live=false) ∨
  decR v w live=(2,none)∧(∀ r∈zbu (winV (winV [] v).L w).L (winV [] v).p (winV (winV [] v).L w).p live,zfc v w live (stO r) (ofW (r.drop 18))=false)∧zcX (winV [] v).p (winV (winV [] v).L w).p (winV [] v).st (winV (winV [] v).L w).st live=false:=by
 have hD:decR v w live=decR v w live:=rfl
 conv at hD=>rhs; rw[decR,hv,hw,if_pos (show(true&&true)=true from rfl)]
 cases hs:zcX (winV [] v).p (winV (winV [] v).L w).p (winV [] v).st (winV (winV [] v).L w).st live with
 | true =>
  rw[hs,if_pos rfl] at hD
  exact .inl ⟨hD,rfl⟩
 | false =>
  rw[hs] at hD
  simp only[Bool.false_eq_true,if_false] at hD
  cases hfd:(zbu (winV (winV [] v).L w).L (winV [] v).p (winV (winV [] v).L w).p live).find? (fun r=>zfc v w live (stO r) (ofW (r.drop 18))) with
  | none =>
   rw[hfd] at hD
   refine .inr (.inr ⟨hD,fun r hr=>?_,rfl⟩)
   have:=List.find?_eq_none.1 hfd r hr
   simpa using this
  | some r =>
   rw[hfd] at hD
   have hh:=List.find?_some hfd
   exact .inr (.inl ⟨r,hD,List.mem_of_find?_eq_some hfd,hh,rfl⟩)
end Go.Ev
/- knows of layer 18. -/
namespace Go.Ev
open Go Go.RowKit
variable {G:Tbl}
theorem zqN{r:List Nat}(hr:r.length=34)(hr':∀ x∈r,x<4294967296)(c:Int):(ansC c (some r)).length=28∧(ansC c (some r)).tail.take 18=(stO r).cs∧(ansC c (some r)).drop 19=(ofW (r.drop 18)).cs:=by
 have h1:=zis (zo0 hr hr')
 have h2:=zkC (zjW (w:=r.drop 18) (by simp[hr]) (fun x hx=>hr' x (List.mem_of_mem_drop hx)))
 refine⟨by simp only[ansC,List.length_cons,List.length_append,h1,h2],?_,?_⟩
 ·simp only[ansC,List.tail_cons]
  rw[List.take_left' h1]
 ·simp only[ansC]
  rw[List.drop_succ_cons,List.drop_left' h1]
end Go.Ev
/- The laws DecideEqual, DecideDiffer. -/
namespace Go.Ev
open Go Go.RowKit
variable {G:Tbl}
theorem zmf(c:Int)(o:Option (List Nat)):(ansC c o).take 1=[.int .i64 c]:=by cases o<;>rfl
theorem zk4(v w:List In4)(live:Nat):(ansC (decR v w live).1 (decR v w live).2).length=28:=by
 cases hww:winB v&&winB w with
 | false =>
  have hd0:decR v w live=(0,none):=by simp[decR,hww]
  rw[hd0]; rfl
 | true =>
  simp only[Bool.and_eq_true] at hww
  rcases dec_tells (live:=live) hww.1 hww.2 with⟨e,_⟩|⟨r,e,hr,_,_⟩|⟨e,_,_⟩
  ·rw[e]; rfl
  ·obtain⟨h1,h2⟩:=zhJ hr
   rw[e]; exact(zqN h1 h2 1).1
  ·rw[e]; rfl
end Go.Ev
/- Which pieces are free: splice.free, splice.Free, hurdleref22.Free. -/
namespace Go.Ev
open Go Go.RowKit
variable {G:Tbl}
def zcN(f:List In4)(a m:Nat):Bool:=(List.range m).all fun j=>!hitB f f.length (a+1+j)
theorem zlA(f:List In4)(a m:Nat):zcN f a (m+1)=(zcN f a m&&!hitB f f.length (a+1+m)):=by simp[zcN,List.range_succ,List.all_append]
theorem zkQ{f:List In4}{a m n:Nat}(h:hitB f f.length (a+1+m)=true)(hm:m<n):zcN f a n=false:=by
 rw[←Bool.not_eq_true,zcN,List.all_eq_true]
 intro h2
 have:=h2 m (List.mem_range.2 hm)
 rw[h] at this; cases this
def zbO(f:List In4)(a n:Nat):Bool:=winB ((f.drop a).take n)&&zcN f a (n-1)
def inB(f:List In4)(a n:Int):Bool:=decide (0≤a∧1≤n∧a<f.length∧n≤f.length-a)
def zbb(f:List In4)(a n:Int):Bool:=inB f a n&&zbO f a.toNat n.toNat
def zcg(f:List In4)(a n:Int):Bool:=zap f&&zbb f a n
theorem zcy{f:List In4}(hs:zap f=true):f.length≤4096:=by simp only[zap,Bool.and_eq_true,decide_eq_true_eq] at hs; exact hs.1.1
theorem zii{f:List In4}(hk:∀ x∈f,x.k<4294967296)(a n:Nat):∀ x∈(f.drop a).take n,x.k<4294967296:=fun x hx=>hk x (List.mem_of_mem_drop (List.mem_of_mem_take hx))
theorem zp0[HasIns G][HasCheck G][HasWRight G][HasSpl G](f:List In4)(a n:Int)(hs:zap f=true)(hk:∀ x∈f,x.k<4294967296) :
  FP G 205 [FL f,.vs (zbi (hits f f.length)) .no,.int .i64 a,.int .i64 n] (.bool (zbb f a n)):=by
 refine zak HasSpl.h_splice_free (Nat.le_of_ble_eq_true rfl) ?_
 have hl:=zcy hs
 have hml:maxLen=9223372036854775807:=by decide
 by_cases h1:a<0
 ·have:zbb f a n=false:=by simp[zbb,inB,show¬0≤a by omega]
  simp[h1,this]
 by_cases h2:n<1
 ·have:zbb f a n=false:=by simp[zbb,inB,show¬1≤n by omega]
  simp[h1,h2,this]
 by_cases h3:(f.length:Int)≤a
 ·have:zbb f a n=false:=by simp[zbb,inB,show¬a<f.length by omega]
  simp[h1,h2,h3,FL,this]
 have s1:subI .i64 (f.length:Int) a=(f.length:Int)-a:=by rw[zaP]<;>omega
 by_cases h4:(f.length:Int)-a<n
 ·have:zbb f a n=false:=by simp[zbb,inB,show¬n≤f.length-a by omega]
  simp[h1,h2,h3,h4,s1,FL,this]
 have hin:inB f a n=true:=by simp only[inB,decide_eq_true_eq]; omega
 obtain⟨a,rfl⟩:=Int.eq_ofNat_of_zero_le (show 0≤a by omega)
 obtain⟨n,rfl⟩:=Int.eq_ofNat_of_zero_le (show 0≤n by omega)
 have hfr:zbb f (a:Int) (n:Int)=zbO f a n:=by simp[zbb,hin]
 rw[hfr]
 have h1:((a:Int)<0)=False:=eq_false h1
 have h2':((n:Int)<1)=False:=eq_false h2
 have h2:(n=0)=False:=eq_false (by omega)
 have h3:((f.length:Int)≤(a:Int))=False:=eq_false h3
 have h4:((f.length:Int)-(a:Int)<(n:Int))=False:=eq_false h4
 have hbd:a+n≤f.length:=by omega
 have aa:addI .i64 (a:Int) (n:Int)=((a+n:Nat):Int):=addN (by omega)
 have a1:addI .i64 (a:Int) 1=((a+1:Nat):Int):=zag (by omega)
 have hw:=zbZ (G:=G) ((f.drop a).take n) (by rw[List.length_take]; omega) (zii hk a n)
 have hsl:List.take n (List.drop a (IL f))=IL ((f.drop a).take n):=by rw[zgP,zgQ]
 have hhl:=zi7 f f.length
 simp only[FL] at hw
 simp(disch:=omega)[h1,h2,h2',h3,h4,s1,FL,aa,leTn,hsl,-Int.natCast_add]
 refine zab hw ?_
 cases hwb:winB ((f.drop a).take n)
 ·simp[zbO,hwb]
 have hfn:zbO f a n=zcN f a (n-1):=by simp[zbO,hwb]
 rw[hfn]
 simp[a1,-Int.natCast_add]
 refine W_up (n-1) (fun j=>[(1,.vs (zbi (hits f f.length)) .no),(2,.int .i64 a),(3,.int .i64 n),(9,.int .i64 ((a+1+j:Nat):Int))]) (fun _=>[]) (fun j=>zcN f a j=true) ?_ ?_
 ·simp[zaa,zac,zcN]
 intro j hj hp
 by_cases hlt:j<n-1
 ·have hF:((a+1+j:Nat):Int)<((a+n:Nat):Int):=by omega
  have hg:=zfR f f.length (a+1+j) (by omega)
  obtain⟨_,hgv⟩:=List.getElem?_eq_some_iff.1 hg
  have a2:addI .i64 ((a+1+j:Nat):Int) 1=((a+1+(j+1):Nat):Int):=zag (by omega)
  cases hh:hitB f f.length (a+1+j)
  ·rw[hh] at hg hgv
   have hp':zcN f a (j+1)=true:=by rw[zlA,hp,hh]; rfl
   simp(disch:=omega)[aa,ltT hF,hg,hgv,hhl,hlt,a2,hp',zaa,zac,-Int.natCast_add]
  ·rw[hh] at hg hgv
   have:=zkQ hh hlt
   simp(disch:=omega)[aa,ltT hF,hg,hgv,hhl,this,-Int.natCast_add]
 ·have hne:j=n-1:=by omega
  subst hne
  have hF:¬((a+1+(n-1):Nat):Int)<((a+n:Nat):Int):=by omega
  simp[aa,ltF hF,hp,-Int.natCast_add]
theorem zvr[HasIns G][HasCheck G][HasWRight G][HasSpl G](f:List In4)(a n:Int)(hf:f.length≤maxLen)(hk:∀ x∈f,x.k<4294967296) :
  FP G 206 [FL f,.int .i64 a,.int .i64 n] (.bool (zcg f a n)):=by
 refine zak HasSpl.h_splice_Free (Nat.le_of_ble_eq_true rfl) ?_
 have hso:=zef (G:=G) f hf hk
 simp
 refine zab hso ?_
 cases hs:zap f
 ·simp[zcg,hs]
 ·simp
  refine zab (zl0 f hs hk) ?_
  simp
  refine zab (zp0 f a n hs hk) ?_
  simp[zcg,hs]
theorem zoh[HasR2 G][HasR5 G][HasR17 G][HasR22 G](f:List In4)(a n:Int)(hf:f.length≤maxLen)(hk:∀ x∈f,x.k<4294967296) :
  FP G 211 [FL f,.int .i64 a,.int .i64 n] (.bool (zcg f a n)):=by
 refine zak HasR22.h_hurdleref22_Free (Nat.le_of_ble_eq_true rfl) ?_
 have hso:=zmS (G:=G) f hf hk
 simp
 refine zab hso ?_
 cases hs:zap f
 ·simp[zcg,hs]
 have hfz:zcg f a n=zbb f a n:=by simp[zcg,hs]
 rw[hfz]
 have hl:=zcy hs
 have hml:maxLen=9223372036854775807:=by decide
 by_cases h1:a<0
 ·have:zbb f a n=false:=by simp[zbb,inB,show¬0≤a by omega]
  simp[h1,this]
 by_cases h2:n<1
 ·have:zbb f a n=false:=by simp[zbb,inB,show¬1≤n by omega]
  simp[h1,h2,this]
 by_cases h3:(f.length:Int)≤a
 ·have:zbb f a n=false:=by simp[zbb,inB,show¬a<f.length by omega]
  simp[h1,h2,h3,FL,this]
 have s1:subI .i64 (f.length:Int) a=(f.length:Int)-a:=by rw[zaP]<;>omega
 by_cases h4:(f.length:Int)-a<n
 ·have:zbb f a n=false:=by simp[zbb,inB,show¬n≤f.length-a by omega]
  simp[h1,h2,h3,h4,s1,FL,this]
 have hin:inB f a n=true:=by simp only[inB,decide_eq_true_eq]; omega
 obtain⟨a,rfl⟩:=Int.eq_ofNat_of_zero_le (show 0≤a by omega)
 obtain⟨n,rfl⟩:=Int.eq_ofNat_of_zero_le (show 0≤n by omega)
 have hfr:zbb f (a:Int) (n:Int)=zbO f a n:=by simp[zbb,hin]
 rw[hfr]
 have h1:((a:Int)<0)=False:=eq_false h1
 have h2':((n:Int)<1)=False:=eq_false h2
 have h2:(n=0)=False:=eq_false (by omega)
 have h3:((f.length:Int)≤(a:Int))=False:=eq_false h3
 have h4:((f.length:Int)-(a:Int)<(n:Int))=False:=eq_false h4
 have hbd:a+n≤f.length:=by omega
 have aa:addI .i64 (a:Int) (n:Int)=((a+n:Nat):Int):=addN (by omega)
 have a1:addI .i64 (a:Int) 1=((a+1:Nat):Int):=zag (by omega)
 have hw:=zgx (G:=G) ((f.drop a).take n) (by rw[List.length_take]; omega) (zii hk a n)
 have hsl:List.take n (List.drop a (IL f))=IL ((f.drop a).take n):=by rw[zgP,zgQ]
 simp only[FL] at hw
 simp(disch:=omega)[h1,h2,h2',h3,h4,s1,FL,aa,leTn,hsl,-Int.natCast_add]
 refine zab hw ?_
 cases hwb:winB ((f.drop a).take n)
 ·simp[zbO,hwb]
 have hfn:zbO f a n=zcN f a (n-1):=by simp[zbO,hwb]
 rw[hfn]
 simp[a1,-Int.natCast_add]
 refine W_up (n-1) (fun j=>[(0,FL f),(1,.int .i64 a),(2,.int .i64 n),(7,.int .i64 ((a+1+j:Nat):Int))]) (fun _=>[]) (fun j=>zcN f a j=true) ?_ ?_
 ·simp[zaa,zac,zcN,FL]
 intro j hj hp
 by_cases hlt:j<n-1
 ·have hF:((a+1+j:Nat):Int)<((a+n:Nat):Int):=by omega
  have a2:addI .i64 ((a+1+j:Nat):Int) 1=((a+1+(j+1):Nat):Int):=zag (by omega)
  simp(disch:=omega)[aa,ltT hF,FL,-Int.natCast_add]
  refine W_up f.length (fun i=>[(0,FL f),(1,.int .i64 a),(2,.int .i64 n),(7,.int .i64 ((a+1+j:Nat):Int)),(8,.int .i64 i)]) (fun _=>[]) (fun i=>hitB f i (a+1+j)=false) ?_ ?_
  ·simp[zaa,zac,FL,hitB]
  intro i hi hq
  by_cases hil:i<f.length
  ·obtain⟨x,hfx⟩:∃ x,x=f[i]:=⟨_,rfl⟩
   have hg:f[i]?=some x:=by rw[List.getElem?_eq_getElem hil,hfx]
   have hD:f.getD i RET=x:=by rw[List.getD,hg]; rfl
   have hjm:=zug (G:=G) f i (a+1+j) x hg (zfQ hs hg) (hk x (hfx▸List.getElem_mem hil)) (by omega) (by omega)
   simp only[FL] at hjm
   have hsu:=zhH f i (a+1+j)
   rw[hq,hD,Bool.false_or] at hsu
   simp(disch:=omega)[FL,ltT,-Int.natCast_add]
   refine zab hjm ?_
   cases hjb:za8 x i (a+1+j)
   ·rw[hjb] at hsu
    simp(disch:=omega)[hil,zag,zaa,zac,FL,hsu,-Int.natCast_add]
   ·rw[hjb] at hsu
    have hh:hitB f f.length (a+1+j)=true:=by
     rw[hitB,List.any_eq_true]
     exact⟨i,List.mem_range.2 hil,by rw[hD]; exact hjb⟩
    have:=zkQ hh hlt
    simp[this]
  ·have hne:i=f.length:=by omega
   subst hne
   have hp':zcN f a (j+1)=true:=by rw[zlA,hp,hq]; rfl
   simp(disch:=omega)[FL,hlt,a2,hp',zaa,zac,-Int.natCast_add]
 ·have hne:j=n-1:=by omega
  subst hne
  have hF:¬((a+1+(n-1):Nat):Int)<((a+n:Nat):Int):=by omega
  simp[aa,ltF hF,hp,FL,-Int.natCast_add]
end Go.Ev
/- A filter with another window: splice.Put. -/
namespace Go.Ev
open Go Go.RowKit
variable {G:Tbl}
def adjN(a e less i d:Nat):Nat:=if i<a∧e≤i+1+d then d-less else d
def putI(a e less i:Nat)(x:In4):In4:=if x.op=5 then{ x with k:=adjN a e less i x.k } else if isBr x.op then{ x with jt:=(adjN a e less i x.jt.toNat:Nat),jf:=(adjN a e less i x.jf.toNat:Nat) } else x
def pre(f:List In4)(a e less m:Nat):List In4:=(List.range m).map fun i=>putI a e less i (f.getD i RET)
def putL(f:List In4)(a n:Nat)(w:List In4):List In4:=pre f a (a+n) (n-w.length) a++w++f.drop (a+n)
def zhv(f:List In4)(a n:Int)(w:List In4):Bool:=zcg f a n&&winB w&&decide ((w.length:Int)≤n)
def zdk(f:List In4)(a n:Nat)(w:List In4)(i:Nat):List In4 :=
 if i≤a then pre f a (a+n) (n-w.length) i else pre f a (a+n) (n-w.length) a++w++(f.take i).drop (a+n)
theorem zoi(f:List In4)(a e less m:Nat):pre f a e less (m+1)=pre f a e less m++[putI a e less m (f.getD m RET)]:=by simp[pre,List.range_succ]
theorem zcZ(f:List In4)(a e less m:Nat):(pre f a e less m).length=m:=by simp[pre]
theorem zrN{f:List In4}{a n:Nat}{w:List In4}{i:Nat}(hi:i≤f.length)(hw:w.length≤32):(zdk f a n w i).length≤i+32:=by
 unfold zdk
 split
 ·rw[zcZ]; omega
 ·simp only[List.length_append,zcZ,List.length_drop,List.length_take]; omega
theorem zrO{f:List In4}{a n:Nat}{w:List In4}(h:a+n≤f.length)(hn:0<n):zdk f a n w f.length=putL f a n w:=by
 rw[zdk,if_neg (by omega),List.take_length,putL]
theorem zvs[HasSpl G](a e less i d:Nat)(z:Blk)(y:List V)(hi:i≤5000)(hd:d<4294967296)(hl:less≤d+5000)(hle:i<a→e≤i+1+d→less≤d) :
  Big G (.F 207 [.int .i64 i,.int .i64 d,.ptr 0 0,.ptr 1 0,.ptr 2 0] [some (.cells [.int .i64 a]),some (.cells [.int .i64 e]),some (.cells [.int .i64 less]),some z,some (.cells y)] (.int .i64 (adjN a e less i d:Nat))
   [some (.cells [.int .i64 a]),some (.cells [.int .i64 e]),some (.cells [.int .i64 less]),some z,some (.cells y)]):=by
 refine F_of HasSpl.h_splice_Put_1 (Nat.le_of_ble_eq_true rfl) ?_
 have a1:addI .i64 (i:Int) 1=((i+1:Nat):Int):=zag (by omega)
 have a2:addI .i64 ((i+1:Nat):Int) (d:Int)=((i+1+d:Nat):Int):=addN (by omega)
 by_cases h1:i<a
 ·by_cases h2:e≤i+1+d
  ·have s1:subI .i64 (d:Int) (less:Int)=((adjN a e less i d:Nat):Int):=by
    have:=hle h1 h2
    rw[adjN,if_pos ⟨h1,h2⟩,zaP]<;>omega
   have h2':((e:Int)≤((i+1+d:Nat):Int))=True:=eq_true (by omega)
   simp[h1,a1,a2,h2',s1,-Int.natCast_add]
  ·have s1:adjN a e less i d=d:=by rw[adjN,if_neg (by omega)]
   have h2':((e:Int)≤((i+1+d:Nat):Int))=False:=eq_false (by omega)
   simp[h1,a1,a2,h2',s1,-Int.natCast_add]
 ·have s1:adjN a e less i d=d:=by rw[adjN,if_neg (by omega)]
  simp[h1,s1]
theorem zwC[HasIns G][HasCheck G][HasWRight G][HasSpl G](f w:List In4)(a n:Nat)(hf:f.length≤maxLen)(hw:w.length≤maxLen)(hk:∀ x∈f,x.k<4294967296)(hkw:∀ x∈w,x.k<4294967296)(h:zhv f a n w=true) :
  FP G 208 [FL f,.int .i64 a,.int .i64 n,FL w] (.tup [.vs (IL (putL f a n w)) .no,.int .i64 0]):=by
 refine zak HasSpl.h_splice_Put (Nat.le_of_ble_eq_true rfl) ?_
 have hfr:=zvr (G:=G) f a n hf hk
 have hwr:=zbZ (G:=G) w hw hkw
 simp only[zhv,Bool.and_eq_true,decide_eq_true_eq] at h
 obtain⟨⟨h1,h2⟩,h3⟩:=h
 rw[h1] at hfr
 rw[h2] at hwr
 simp only[zcg,zbb,inB,Bool.and_eq_true,decide_eq_true_eq] at h1
 obtain⟨hs,⟨_,i2,i3,i4⟩,hfn⟩:=h1
 simp only[Int.toNat_natCast] at hfn
 have hlen:=zcy hs
 have hw32:w.length≤32:=by simp only[winB,Bool.and_eq_true,decide_eq_true_eq] at h2; exact h2.1
 have hbd:a+n≤f.length:=by omega
 have h3':((n:Int)<(w.length:Int))=False:=eq_false (by omega)
 have aa:addI .i64 (a:Int) (n:Int)=((a+n:Nat):Int):=addN (by omega)
 have ss:subI .i64 (n:Int) (w.length:Int)=((n-w.length:Nat):Int):=by rw[zaP]<;>omega
 simp only[FL] at hfr hwr
 simp[FL]
 refine zab hfr ?_
 simp
 refine zab hwr ?_
 simp[h3',aa,ss,-Int.natCast_add]
 obtain⟨T,hT⟩:∃ T:Nat→List In4,∀ j,T j=zdk f a n w j:=⟨_,fun _=>rfl⟩
 have hT0:T 0=[]:=by rw[hT,zdk,if_pos (by omega)]; rfl
 refine W_up f.length (fun i=>[(3,FL w),(5,.ptr 0 0),(10,.ptr 1 0),(12,.fn 207 [.ptr 0 0,.ptr 1 0,.ptr 2 0]),(13,.vs (IL (T i)) (.own 3)),(40,FL f),(41,.int .i64 f.length),(42,.int .i64 i)])
  (fun i=>[some (.cells [.int .i64 a]),some (.cells [.int .i64 ((a+n:Nat):Int)]),some (.cells [.int .i64 ((n-w.length:Nat):Int)]),some (.zone (T i).length)]) (fun _=>True) ?_ ?_
 ·simp[zaa,zac,FL,hT0]
 intro i hi _
 by_cases hlt:i<f.length
 ·have hTl:(T i).length≤i+32:=by rw[hT]; exact zrN hi hw32
  obtain⟨x,hfx⟩:∃ x,x=f[i]:=⟨_,rfl⟩
  have hgg:=za2 hlt
  rw[←hfx] at hgg
  have hfx:=hfx.symm
  have hg:f[i]?=some x:=by rw[List.getElem?_eq_getElem hlt,hfx]
  have hD:f.getD i RET=x:=by rw[List.getD,hg]; rfl
  have hxm:x∈f:=hfx▸List.getElem_mem hlt
  have hkk:=hk x hxm
  have hbo:=zfQ hs hg
  have hcs:x.cs=[.int .i64 x.op,.int .i64 x.jt,.int .i64 x.jf,.int .u32 (x.k:Int)]:=rfl
  have hbr:=zcd (G:=G) x
  simp[IV,hcs] at hbr
  have hend:((a:Int)≤(i:Int))=(a≤i):=propext (by omega)
  by_cases hia:i=a
  ·have e1:((i:Int)==(a:Int))=true:=by simp[hia]
   have hTs:T (i+1)=T i++w:=by
    rw[hT,hT,zdk,zdk,if_neg (by omega),if_pos (by omega),hia]
    rw[List.drop_eq_nil_of_le (by rw[List.length_take]; omega)]; simp
   have hTl2:(T (i+1)).length=(T i).length+w.length:=by rw[hTs]; simp
   have hE:((i:Int)<((a+n:Nat):Int))=True:=eq_true (by omega)
   have hG:((a:Int)≤(i:Int))=True:=eq_true (by omega)
   have hap:IL (T i)++IL w=IL (T (i+1)):=by rw[zkc,hTs]
   by_cases hw0:w=[]
   ·subst hw0
    have hTe:T (i+1)=T i:=by rw[hTs]; simp
    simp(disch:=omega)[ltT,FL,hgg,hfx,hcs,e1,hE,hG,hTe,hlt,zag,zaa,zac,-Int.natCast_add]
   ·simp(disch:=omega)[ltT,FL,hgg,hfx,hcs,e1,hE,hG,zdM,hw0,leTn,hap,hTl2,hlt,zag,zaa,zac,-Int.natCast_add]
  have e1:((i:Int)==(a:Int))=false:=beqF (by omega)
  by_cases hmid:a≤i∧i<a+n
  ·have hTe:T (i+1)=T i:=by
    rw[hT,hT,zdk,zdk,if_neg (by omega),if_neg (by omega)]
    rw[List.drop_eq_nil_of_le (by rw[List.length_take]; omega),List.drop_eq_nil_of_le (by rw[List.length_take]; omega)]
   have hE:((i:Int)<((a+n:Nat):Int))=True:=eq_true (by omega)
   have hG:((a:Int)≤(i:Int))=True:=eq_true (by omega)
   simp(disch:=omega)[ltT,FL,hgg,hfx,hcs,e1,hE,hG,hTe,hlt,zag,zaa,zac,-Int.natCast_add]
  have hTs:T (i+1)=T i++[putI a (a+n) (n-w.length) i x]:=by
   rw[hT,hT]
   by_cases hlo:i<a
   ·rw[zdk,zdk,if_pos (by omega),if_pos (by omega),zoi,hD]
   ·have hadj:∀ d,adjN a (a+n) (n-w.length) i d=d:=fun d=>by rw[adjN,if_neg (by omega)]
    have hpx:putI a (a+n) (n-w.length) i x=x:=by
     unfold putI
     simp only[hadj]
     obtain⟨op,jt,jf,k⟩:=x
     by_cases h5:op=5
     ·simp[h5]
     ·cases hbx:isBr op
      ·simp[h5]
      ·obtain⟨b1,b2,b3,b4⟩:=hbo hbx
       simp only at b1 b2 b3 b4
       simp[h5]; omega
    have hdr:(f.take (i+1)).drop (a+n)=(f.take i).drop (a+n)++[x]:=by
     rw[List.take_add_one,hg,Option.toList_some,List.drop_append_of_le_length (by rw[List.length_take]; omega)]
    rw[hpx,zdk,zdk,if_neg (by omega),hdr]
    by_cases hia2:i≤a
    ·omega
    ·rw[if_neg hia2,←List.append_assoc]
  have hTl2:(T (i+1)).length=(T i).length+1:=by rw[hTs]; simp
  have ho:∀ d:Nat,d<4294967296→_:=fun d hd=>zvs (G:=G) a (a+n) (n-w.length) i d (.zone (T i).length) x.cs (by omega) hd (by omega) (fun h1 h2=>by omega)
  have hadl:∀ d:Nat,adjN a (a+n) (n-w.length) i d≤d:=fun d=>by unfold adjN; split<;>omega
  have hsn:∀ y:In4,y=putI a (a+n) (n-w.length) i x→IL (T i)++[y.cs]=IL (T (i+1)):=fun y hy=>by rw[hTs,hy]; exact zmL _ _
  by_cases hai:a≤i
  ·have hG:((a:Int)≤(i:Int))=True:=eq_true (by omega)
   have hE:((i:Int)<((a+n:Nat):Int))=False:=eq_false (by omega)
   by_cases h5:x.op=5
   ·have b5:(x.op==5)=true:=by simp[h5]
    have hc:=zdZ x.k hkk
    have hov:=ho x.k hkk
    have hc2:zaU .u32 ((adjN a (a+n) (n-w.length) i x.k:Nat):Int)=((adjN a (a+n) (n-w.length) i x.k:Nat):Int):=by unfold zaU; exact zaW (by have:=hadl x.k; omega)
    have hap:=hsn ⟨x.op,x.jt,x.jf,adjN a (a+n) (n-w.length) i x.k⟩ (by simp[putI,h5])
    simp only[In4.cs] at hov hap
    simp(disch:=omega)[ltT,FL,hgg,hfx,hcs,e1,hG,hE,b5,hc,-Int.natCast_add]
    refine zaF hov (by simp) ?_
    simp(disch:=omega)[zac,hc2,leTn,hap,hTl2,hlt,zag,zaa,-Int.natCast_add]
   have b5:(x.op==5)=false:=beqF h5
   simp(disch:=omega)[ltT,FL,hgg,hfx,hcs,e1,hG,hE,b5,-Int.natCast_add]
   refine zab hbr ?_
   cases hbx:isBr x.op
   ·have hap:=hsn x (by simp[putI,h5,hbx])
    simp only[In4.cs] at hap
    simp(disch:=omega)[leTn,hap,hTl2,hlt,zag,zaa,zac,-Int.natCast_add]
   ·obtain⟨b1,b2,b3,b4⟩:=hbo hbx
    have hov:=ho x.jt.toNat (by omega)
    have hov2:=ho x.jf.toNat (by omega)
    have hap:=hsn ⟨x.op,(adjN a (a+n) (n-w.length) i x.jt.toNat:Nat),(adjN a (a+n) (n-w.length) i x.jf.toNat:Nat),x.k⟩ (by simp[putI,h5,hbx])
    have j1:((x.jt.toNat:Nat):Int)=x.jt:=by omega
    have j2:((x.jf.toNat:Nat):Int)=x.jf:=by omega
    simp only[In4.cs,j1,j2] at hov hov2 hap
    simp
    refine zaF hov (by simp[zac]) ?_
    simp[zac]
    refine zaF hov2 (by simp[zac]) ?_
    simp(disch:=omega)[zac,leTn,hap,hTl2,hlt,zag,zaa,-Int.natCast_add]
    omega
  ·have hG:((a:Int)≤(i:Int))=False:=eq_false (by omega)
   by_cases h5:x.op=5
   ·have b5:(x.op==5)=true:=by simp[h5]
    have hc:=zdZ x.k hkk
    have hov:=ho x.k hkk
    have hc2:zaU .u32 ((adjN a (a+n) (n-w.length) i x.k:Nat):Int)=((adjN a (a+n) (n-w.length) i x.k:Nat):Int):=by unfold zaU; exact zaW (by have:=hadl x.k; omega)
    have hap:=hsn ⟨x.op,x.jt,x.jf,adjN a (a+n) (n-w.length) i x.k⟩ (by simp[putI,h5])
    simp only[In4.cs] at hov hap
    simp(disch:=omega)[ltT,FL,hgg,hfx,hcs,e1,hG,b5,hc,-Int.natCast_add]
    refine zaF hov (by simp) ?_
    simp(disch:=omega)[zac,hc2,leTn,hap,hTl2,hlt,zag,zaa,-Int.natCast_add]
   have b5:(x.op==5)=false:=beqF h5
   simp(disch:=omega)[ltT,FL,hgg,hfx,hcs,e1,hG,b5,-Int.natCast_add]
   refine zab hbr ?_
   cases hbx:isBr x.op
   ·have hap:=hsn x (by simp[putI,h5,hbx])
    simp only[In4.cs] at hap
    simp(disch:=omega)[leTn,hap,hTl2,hlt,zag,zaa,zac,-Int.natCast_add]
   ·obtain⟨b1,b2,b3,b4⟩:=hbo hbx
    have hov:=ho x.jt.toNat (by omega)
    have hov2:=ho x.jf.toNat (by omega)
    have hap:=hsn ⟨x.op,(adjN a (a+n) (n-w.length) i x.jt.toNat:Nat),(adjN a (a+n) (n-w.length) i x.jf.toNat:Nat),x.k⟩ (by simp[putI,h5,hbx])
    have j1:((x.jt.toNat:Nat):Int)=x.jt:=by omega
    have j2:((x.jf.toNat:Nat):Int)=x.jf:=by omega
    simp only[In4.cs,j1,j2] at hov hov2 hap
    simp
    refine zaF hov (by simp[zac]) ?_
    simp[zac]
    refine zaF hov2 (by simp[zac]) ?_
    simp(disch:=omega)[zac,leTn,hap,hTl2,hlt,zag,zaa,-Int.natCast_add]
    omega
 ·have hne:i=f.length:=by omega
  subst hne
  have hTe:T f.length=putL f a n w:=by rw[hT,zrO hbd (by omega)]
  simp[hTe]
end Go.Ev
/- A filter's free pieces: splice.Pieces, hurdleref22.Pieces. -/
namespace Go.Ev
open Go Go.RowKit
variable {G:Tbl}
abbrev Pc:=Nat×Nat
def pr(c:Nat→Bool)(a k j:Nat):List Pc:=(List.range j).flatMap fun i=>if c (k-i) then [(a,k-i)] else []
theorem zfj(c:Nat→Bool)(a k j:Nat):pr c a k (j+1)=pr c a k j++(if c (k-j)=true then [(a,k-j)] else []):=by
 simp[pr,List.range_succ,List.flatMap_append]
theorem zkg(c:Nat→Bool)(a:Nat):∀(d k:Nat),(∀ m,k<m→m≤k+d→c m=false)→∀ j,pr c a (k+d) (d+j)=pr c a k j
 | 0,k,_,j=>by simp
 | d+1,k,h,0=>by
  have:=zkg c a d (k+1) (fun m h1 h2=>h m (by omega) (by omega)) 1
  rw[show k+(d+1)=k+1+d by omega,show d+1+0=d+1 by omega,this]
  simp[pr,h (k+1) (by omega) (by omega)]
 | d+1,k,h,j+1=>by
  have ih:=zkg c a (d+1) k h j
  rw[show d+1+(j+1)=(d+1+j)+1 by omega,zfj,ih,zfj]
  rw[show k+(d+1)-(d+1+j)=k-j by omega]
theorem zlB(c:Nat→Bool)(a k:Nat):∀ j,(pr c a k j).length≤j
 | 0=>by simp[pr]
 | j+1=>by
  rw[zfj,List.length_append]
  have:=zlB c a k j
  split<;>simp<;>omega
def cnd(f:List In4)(most:Int)(a m:Nat):Bool:=decide ((m:Int)≤most)&&decide ((m:Int)≤f.length-a)&&zcg f a m
def rows(f:List In4)(most:Int)(a:Nat):List Pc:=(List.range a).flatMap fun b=>pr (cnd f most b) b 32 31
theorem zf5(f:List In4)(most:Int)(a:Nat):rows f most (a+1)=rows f most a++pr (cnd f most a) a 32 31:=by
 simp[rows,List.range_succ,List.flatMap_append]
theorem zgZ(f:List In4)(most:Int):∀ a,(rows f most a).length≤31*a
 | 0=>by simp[rows]
 | a+1=>by
  rw[zf5,List.length_append]
  have:=zgZ f most a
  have:=zlB (cnd f most a) a 32 31
  omega
theorem zp1{c:Nat→Bool}(h:∀ m,c m=false)(a k:Nat):∀ j,pr c a k j=[]
 | 0=>rfl
 | j+1=>by rw[zfj,zp1 h a k j,h]; rfl
theorem zm1{f:List In4}(h:zap f=false)(most:Int):∀ a,rows f most a=[]
 | 0=>rfl
 | a+1=>by rw[zf5,zm1 h most a,zp1 (fun m=>by simp[cnd,zcg,h])]; rfl
theorem zwD{f:List In4}{most:Int}{a:Nat}(k:Int)(hk:k=min most (min ((f.length:Int)-a) 32)):pr (cnd f most a) a 32 31=pr (cnd f most a) a k.toNat (k.toNat-1):=by
 by_cases h2:k<1
 ·have:∀ m,1≤m→m≤32→cnd f most a m=false:=by
   intro m h1 h3
   by_cases hm:(m:Int)≤most
   ·have:¬(m:Int)≤f.length-a:=by omega
    simp[cnd,this]
   ·simp[cnd,hm]
  have h3:=zkg (cnd f most a) a 31 1 (fun m h1 h2=>this m (by omega) (by omega)) 0
  simp only[Nat.add_zero] at h3
  rw[show k.toNat-1=0 by omega,h3]
  rfl
 ·have h3:=zkg (cnd f most a) a (32-k.toNat) k.toNat (fun m h1 h3=>by
   by_cases hm:(m:Int)≤most
   ·have:¬(m:Int)≤f.length-a:=by omega
    simp[cnd,this]
   ·simp[cnd,hm]) (k.toNat-1)
  rw[show k.toNat+(32-k.toNat)=32 by omega,show 32-k.toNat+(k.toNat-1)=31 by omega] at h3
  exact h3
def zcD(l:List Pc):List (List V):=l.map fun p=>[.int .i64 (p.1:Int),.int .i64 (p.2:Int)]
@[simp] theorem zwE (l:List Pc):(zcD l).length=l.length:=by simp[zcD]
@[simp] theorem zAT:zcD []=[]:=rfl
@[simp] theorem zlC (l:List Pc) (a m:Nat):zcD l++[[V.int .i64 (a:Int),.int .i64 (m:Int)]]=zcD (l++[(a,m)]):=by simp[zcD]
@[simp] theorem zAU (l:List Pc) (i:Nat):(zcD l)[i]?=(l[i]?).map fun p=>[.int .i64 (p.1:Int),.int .i64 (p.2:Int)]:=by simp[zcD]
@[simp] theorem zBg (l:List Pc):(∀ f∈zcD l,f.length=2)=True:=by
 simp only[eq_iff_iff,iff_true]
 intro f hf
 simp only[zcD,List.mem_map] at hf
 obtain⟨x,_,rfl⟩:=hf
 rfl
theorem zrP[HasIns G][HasCheck G][HasWRight G][HasSpl G](f:List In4)(most:Int)(hf:f.length≤maxLen)(hk:∀ x∈f,x.k<4294967296)(hm:-9223372036854775808≤most∧most≤9223372036854775807) :
  FP G 209 [FL f,.int .i64 most] (.vs (zcD (rows f most f.length)) .no):=by
 refine zak HasSpl.h_splice_Pieces (Nat.le_of_ble_eq_true rfl) ?_
 have hso:=zef (G:=G) f hf hk
 simp
 refine zab hso ?_
 cases hs:zap f
 ·rw[zm1 hs]; simp
 have hl:=zcy hs
 simp
 refine zab (zl0 f hs hk) ?_
 simp[FL]
 refine W_up f.length (fun a=>[(0,FL f),(1,.int .i64 most),(5,.vs (zbi (hits f f.length)) .no),(6,.vs (zcD (rows f most a)) (.own 0)),(15,.int .i64 f.length),(16,.int .i64 a)]) (fun a=>[some (.zone (rows f most a).length)]) (fun _=>True) ?_ ?_
 ·simp[zaa,zac,FL,rows]
 intro a ha _
 have hrl:=zgZ f most a
 by_cases hlt:a<f.length
 ·obtain⟨k,hkk⟩:∃ k,k=min most (min ((f.length:Int)-a) 32):=⟨_,rfl⟩
  have hpm:=zwD k hkk
  have s1:subI .i64 (f.length:Int) (a:Int)=(f.length:Int)-a:=by rw[zaP]<;>omega
  have hkm:(if 32<if(f.length:Int)-(a:Int)<most then(f.length:Int)-(a:Int) else most then 32 else if(f.length:Int)-(a:Int)<most then(f.length:Int)-(a:Int) else most)=k:=by omega
  simp(disch:=omega)[ltT,FL,s1,mmGo,mmI,hkm,-Int.natCast_add]
  obtain⟨T,hT⟩:∃ T:Nat→List Pc,∀ j,T j=rows f most a++pr (cnd f most a) a k.toNat j:=⟨_,fun _=>rfl⟩
  have hT0:T 0=rows f most a:=by rw[hT]; simp[pr]
  refine W_up (k.toNat-1) (fun j=>[(0,FL f),(1,.int .i64 most),(5,.vs (zbi (hits f f.length)) .no),(6,.vs (zcD (T j)) (.own 0)),(7,.int .i64 a),(8,.int .i64 (k-j)),(15,.int .i64 f.length),(16,.int .i64 a)])
   (fun j=>[some (.zone (T j).length)]) (fun _=>True) ?_ ?_
  ·simp[zaa,zac,FL,hT0]
  intro j hj _
  have hpl:=zlB (cnd f most a) a k.toNat j
  have hll:(T j).length≤31*a+j:=by rw[hT,List.length_append]; omega
  have hps:=zfj (cnd f most a) a k.toNat j
  by_cases hjl:j<k.toNat-1
  ·have hge:(2:Int)≤k-j:=by omega
   have e1:k-(j:Int)=((k.toNat-j:Nat):Int):=by omega
   have hfr:=zp0 (G:=G) f a ((k.toNat-j:Nat):Int) hs hk
   have s2:subI .i64 ((k.toNat-j:Nat):Int) 1=k-((j+1:Nat):Int):=by rw[zaP]<;>omega
   have hle:((2:Int)≤((k.toNat-j:Nat):Int))=True:=eq_true (by omega)
   have hcn:cnd f most a (k.toNat-j)=zbb f a ((k.toNat-j:Nat):Int):=by
    have h1:((k.toNat-j:Nat):Int)≤most:=by omega
    have h2:((k.toNat-j:Nat):Int)≤f.length-a:=by omega
    simp[cnd,h1,h2,zcg,hs]
   simp only[FL] at hfr
   rw[hcn] at hps
   rw[e1]
   simp(disch:=omega)[hle,FL,-Int.natCast_add]
   refine zab hfr ?_
   cases hfb:zbb f a ((k.toNat-j:Nat):Int)
   ·rw[hfb] at hps
    have hsame:T (j+1)=T j:=by rw[hT,hT,hps]; simp
    simp(disch:=omega)[s2,hjl,hsame,zaa,zac,FL,-Int.natCast_add]
   ·rw[hfb] at hps
    simp only[if_true] at hps
    have hsn:T (j+1)=T j++[(a,k.toNat-j)]:=by rw[hT,hT,hps,List.append_assoc]
    have hll2:(T (j+1)).length=(T j).length+1:=by rw[hsn]; simp
    have hsn2:zcD (T j)++[[V.int .i64 (a:Int),.int .i64 ((k.toNat-j:Nat):Int)]]=zcD (T (j+1)):=by rw[zlC,hsn]
    simp(disch:=omega)[leTn,hsn2,hll2,s2,hjl,zaa,zac,FL,-Int.natCast_add,-zlC]
  ·have hne:j=k.toNat-1:=by omega
   subst hne
   have hF:((2:Int)≤k-((k.toNat-1:Nat):Int))=False:=eq_false (by omega)
   have hTe:T (k.toNat-1)=rows f most (a+1):=by rw[hT,←hpm,←zf5]
   rw[hTe]
   simp(disch:=omega)[hF,hlt,zag,zaa,zac,FL,-Int.natCast_add]
 ·have hne:a=f.length:=by omega
  subst hne
  simp
def zcE(t:Tk)(l:List Pc):List (List V):=l.map fun p=>[.vs [[.int .i64 (p.1:Int)],[.int .i64 (p.2:Int)]] t]
@[simp] theorem zwF (t:Tk) (l:List Pc):(zcE t l).length=l.length:=by simp[zcE]
@[simp] theorem zAV (t:Tk):zcE t []=[]:=rfl
theorem zqO(t:Tk)(l:List Pc)(a m:Nat):zcE t l++[[V.vs [[.int .i64 (a:Int)],[.int .i64 (m:Int)]] t]]=zcE t (l++[(a,m)]):=by simp[zcE]
@[simp] theorem zAW (t:Tk) (l:List Pc) (i:Nat):(zcE t l)[i]?=(l[i]?).map fun p=>[.vs [[.int .i64 (p.1:Int)],[.int .i64 (p.2:Int)]] t]:=by simp[zcE]
@[simp] theorem zBh (t:Tk) (l:List Pc):(∀ f∈zcE t l,f.length=1)=True:=by
 simp only[eq_iff_iff,iff_true]
 intro f hf
 simp only[zcE,List.mem_map] at hf
 obtain⟨x,_,rfl⟩:=hf
 rfl
theorem zqP[HasR2 G][HasR5 G][HasR17 G][HasR22 G](f:List In4)(most:Int)(hf:f.length≤1000)(hk:∀ x∈f,x.k<4294967296) :
  FP G 214 [FL f,.int .i64 most] (.vs (zcE .full (rows f most f.length)) .no):=by
 refine zak HasR22.h_hurdleref22_Pieces (Nat.le_of_ble_eq_true rfl) ?_
 simp[FL]
 refine W_up f.length (fun a=>[(0,FL f),(1,.int .i64 most),(5,.vs (zcE .full (rows f most a)) (.own 0)),(6,.int .i64 a)]) (fun a=>[some (.zone (rows f most a).length)]) (fun _=>True) ?_ ?_
 ·simp[zaa,zac,FL,rows]
 intro a ha _
 have hrl:=zgZ f most a
 by_cases hlt:a<f.length
 ·simp(disch:=omega)[ltT,FL,-Int.natCast_add]
  obtain⟨T,hT⟩:∃ T:Nat→List Pc,∀ j,T j=rows f most a++pr (cnd f most a) a 32 j:=⟨_,fun _=>rfl⟩
  have hT0:T 0=rows f most a:=by rw[hT]; simp[pr]
  refine W_up 31 (fun j=>[(0,FL f),(1,.int .i64 most),(5,.vs (zcE .full (T j)) (.own 0)),(6,.int .i64 a),(7,.int .i64 ((32:Int)-j))])
   (fun j=>[some (.zone (T j).length)]) (fun _=>True) ?_ ?_
  ·simp[zaa,zac,FL,hT0]
  intro j hj _
  have hpl:=zlB (cnd f most a) a 32 j
  have hll:(T j).length≤31*a+j:=by rw[hT,List.length_append]; omega
  have hps:=zfj (cnd f most a) a 32 j
  by_cases hjl:j<31
  ·have e1:(32:Int)-(j:Int)=((32-j:Nat):Int):=by omega
   have hle:((2:Int)≤((32-j:Nat):Int))=True:=eq_true (by omega)
   have s2:subI .i64 ((32-j:Nat):Int) 1=(32:Int)-((j+1:Nat):Int):=by rw[zaP]<;>omega
   have s1:subI .i64 (f.length:Int) (a:Int)=(f.length:Int)-a:=by rw[zaP]<;>omega
   have hfr:=zoh (G:=G) f a ((32-j:Nat):Int) (by have:maxLen=9223372036854775807:=(by decide); omega) hk
   simp only[FL] at hfr
   have no:cnd f most a (32-j)=false→T (j+1)=T j:=by
    intro h; rw[hT,hT,hps,h]; simp
   rw[e1]
   by_cases hm:((32-j:Nat):Int)≤most
   ·by_cases hl2:((32-j:Nat):Int)≤(f.length:Int)-a
    ·have hcn:cnd f most a (32-j)=zcg f a ((32-j:Nat):Int):=by simp only[cnd,hm,hl2,decide_true,Bool.true_and]
     simp(disch:=omega)[hle,FL,hm,s1,hl2]
     refine zab hfr ?_
     cases hfb:zcg f a ((32-j:Nat):Int)
     ·have hsame:=no (hcn.trans hfb)
      simp(disch:=omega)[s2,hjl,hsame,zaa,zac,FL]
     ·have hsn:T (j+1)=T j++[(a,32-j)]:=by rw[hT,hT,hps,hcn,hfb,List.append_assoc]; rfl
      have hll2:(T (j+1)).length=(T j).length+1:=by rw[hsn]; simp
      have hsn2:zcE .full (T j)++[[V.vs [[.int .i64 (a:Int)],[.int .i64 ((32-j:Nat):Int)]] .full]]=zcE .full (T (j+1)):=by rw[zqO,hsn]
      simp(disch:=omega)[leTn,hsn2,hll2,s2,hjl,zaa,zac,FL]
    ·have hsame:=no (by simp only[cnd,hl2,decide_false,Bool.and_false,Bool.false_and])
     simp(disch:=omega)[hle,FL,hm,s1,hl2,s2,hjl,hsame,zaa,zac]
   ·have hsame:=no (by simp only[cnd,hm,decide_false,Bool.false_and])
    simp(disch:=omega)[hle,FL,hm,s2,hjl,hsame,zaa,zac]
  ·have hne:j=31:=by omega
   subst hne
   have hTe:T 31=rows f most (a+1):=by rw[hT,←zf5]
   rw[hTe]
   simp(disch:=omega)[hlt,zag,zaa,zac,FL,-Int.natCast_add]
 ·have hne:a=f.length:=by omega
  subst hne
  simp[FL]
theorem zrQ{c:Nat→Bool}{a k:Nat}{p:Pc}:∀{j:Nat},p∈pr c a k j→p.1=a∧c p.2=true∧p.2≤k∧k<p.2+j
 | 0,h=>by simp[pr] at h
 | j+1,h=>by
  rw[zfj,List.mem_append] at h
  rcases h with h|h
  ·obtain⟨h1,h2,h3,h4⟩:=zrQ h; exact⟨h1,h2,h3,by omega⟩
  ·split at h
   ·rename_i hc
    simp only[List.mem_singleton] at h
    subst h
    exact⟨rfl,hc,by simp,by simp only; omega⟩
   ·cases h
theorem ziF{f:List In4}{most:Int}{p:Pc}:∀{n:Nat},p∈rows f most n→p.1<n∧cnd f most p.1 p.2=true∧2≤p.2∧p.2≤32
 | 0,h=>by simp[rows] at h
 | n+1,h=>by
  rw[zf5,List.mem_append] at h
  rcases h with h|h
  ·obtain⟨h1,h2⟩:=ziF h; exact⟨by omega,h2⟩
  ·obtain⟨h1,h2,h3,h4⟩:=zrQ h
   exact⟨by omega,by rw[h1]; exact h2,by omega,h3⟩
end Go.Ev
/- The laws SpliceSound and SpliceSelf. -/
namespace Go.Ev
open Go Go.RowKit
variable {G:Tbl}
theorem zoj:∀{f:List In4},(∀ i x,f[i]?=some x→oneB x (f.length-1-i)=true)→zaM f=true
 | [],_=>rfl
 | x::f,h=>by
  rw[zaM,Bool.and_eq_true]
  refine⟨by have:=h 0 x rfl; simpa using this,zoj fun i y hy=>?_⟩
  have:=h (i+1) y (by simpa using hy)
  rw[←this]; congr 1; simp only[List.length_cons]; omega
theorem zrR{x:In4}(a e less i:Nat)(h:zaT x=true)(hr:zbj x=true):zaT (putI a e less i x)=true∧zbj (putI a e less i x)=true:=by
 have hbo:=zb6 h
 have hadl:∀ d:Nat,adjN a e less i d≤d:=fun d=>by unfold adjN; split<;>omega
 unfold putI
 by_cases h5:x.op=5
 ·rw[if_pos h5]
  refine⟨?_,?_⟩
  ·have hs:za4 5=some (5,[106,97],true,false):=by decide
   unfold zaT at h ⊢
   simp only[h5,hs,Bool.true_or,Bool.true_and] at h ⊢
   exact h
  ·simp[zbj,h5]
 ·rw[if_neg h5]
  by_cases hb:isBr x.op=true
  ·rw[if_pos hb]
   obtain⟨b1,b2,b3,b4⟩:=hbo hb
   have:=hadl x.jt.toNat
   have:=hadl x.jf.toNat
   refine⟨?_,?_⟩
   ·unfold zaT at h ⊢
    simp only at h ⊢
    split at h
    ·rename_i r hsr
     simp only[hsr,Bool.and_eq_true] at h ⊢
     refine⟨h.1,?_⟩
     have key:∀ r∈zaC,isBr r.1=r.2.2.2:=by decide
     obtain⟨q1,q2⟩:=zcY hsr
     have:=key r q2
     rw[q1,hb] at this
     rw[←this]
     simp only[if_true,decide_eq_true_eq]
     omega
    ·cases h
   ·have hn:∀ p∈[21,37,53,69,29,45,61,(77:Int)],p≠32∧p≠52∧¬(p=2∨p=3∨p=96∨p=97)∧¬(p=100∨p=116):=by decide
    obtain⟨n1,n2,n3,n4⟩:=hn _ (by simpa[isBr] using hb)
    simp only[zbj,n1,n2,n3,n4,if_false]
  ·rw[if_neg hb]; exact⟨h,hr⟩
theorem zwG(a e less i:Nat)(x:In4):(putI a e less i x).op=x.op:=by
 unfold putI
 split
 ·rfl
 ·split<;>rfl
theorem zrS{x:In4}(h:zaK x=true)(left:Nat):oneB x left=true:=by
 simp only[zaK,Bool.and_eq_true] at h
 rw[zjm h.1.1,h.1.2,h.2]; rfl
theorem zkh{w:List In4}(h:winB w=true):∀ x∈w,zaK x=true:=by
 simp only[winB,Bool.and_eq_true,List.all_eq_true] at h
 exact h.2
theorem zm2{f:List In4}{a n:Nat}(hs:zap f=true)(hf:zbO f a n=true)(hn:0<n)(hbd:a+n≤f.length):a+n<f.length:=by
 by_cases h:a+n<f.length
 ·exact h
 ·exfalso
  have hg:f[a+n-1]?=some (f[a+n-1]'(by omega)):=List.getElem?_eq_getElem (by omega)
  obtain⟨_,h2,_⟩:=zex hs hg
  have hm:f[a+n-1]'(by omega)∈(f.drop a).take n:=by
   refine List.mem_of_getElem? (i:=n-1) ?_
   rw[List.getElem?_take,if_pos (by omega),List.getElem?_drop,show a+(n-1)=a+n-1 by omega]
   exact hg
  simp only[zbO,Bool.and_eq_true] at hf
  have hp:=zkh hf.1 _ hm
  simp only[zaK,Bool.and_eq_true] at hp
  have:=h2 (ziD hp.1.1).2.2
  omega
theorem zrT{f:List In4}{a n:Nat}(hf:zbO f a n=true){i:Nat}{x:In4}(hg:f[i]?=some x){t:Nat}(h1:a<t)(h2:t<a+n):za8 x i t=false:=by
 simp only[zbO,Bool.and_eq_true,zcN,List.all_eq_true,List.mem_range,Bool.not_eq_true'] at hf
 have:=hf.2 (t-a-1) (by omega)
 rw[show a+1+(t-a-1)=t by omega,hitB,←Bool.not_eq_true,List.any_eq_true] at this
 rw[←Bool.not_eq_true]
 intro h
 refine this ⟨i,List.mem_range.2 (List.getElem?_eq_some_iff.1 hg).1,?_⟩
 rw[List.getD,hg]; exact h
theorem ziG{f w:List In4}{a n:Nat}(hbd:a+n≤f.length):(putL f a n w).length=f.length-n+w.length:=by
 simp only[putL,List.length_append,zcZ,List.length_drop]; omega
theorem zrU{f w:List In4}{a n:Nat}(hs:zap f=true)(hf:zbO f a n=true)(hn:0<n)(hbd:a+n≤f.length)(hw:winB w=true)(hwn:w.length≤n):zap (putL f a n w)=true:=by
 have hlast:=zm2 hs hf hn hbd
 have hL:=ziG (w:=w) hbd
 have hl:=zcy hs
 have h1:zaM (putL f a n w)=true:=by
  refine zoj fun i x hx=>?_
  rw[hL]
  by_cases hia:i<a
  ·rw[putL,List.append_assoc,List.getElem?_append_left (by rw[zcZ]; exact hia)] at hx
   have hg:f[i]?=some (f[i]'(by omega)):=List.getElem?_eq_getElem (by omega)
   obtain⟨y,hy⟩:∃ y,y=f[i]'(by omega):=⟨_,rfl⟩
   rw[←hy] at hg
   have hx2:x=putI a (a+n) (n-w.length) i y:=by
    rw[pre,List.getElem?_map,List.getElem?_range hia] at hx
    simp only[Option.map_some,Option.some.injEq] at hx
    rw[←hx,List.getD,hg]; rfl
   subst hx2
   have ho:=(zex hs hg).1
   simp only[oneB,Bool.and_eq_true] at ho
   obtain⟨⟨⟨o1,o2⟩,o3⟩,o4⟩:=ho
   obtain⟨r1,r2⟩:=zrR a (a+n) (n-w.length) i o1 o2
   have hbo:=zb6 o1
   rw[oneB,zwG,r1,r2]
   have tgt:∀ d:Nat,za8 y i (i+1+d)=true→i+1+d<f.length→adjN a (a+n) (n-w.length) i d<f.length-n+w.length-1-i:=by
    intro d hj hd
    have hnh:¬(a<i+1+d∧i+1+d<a+n):=fun⟨h1,h2⟩=>by rw[zrT hf hg h1 h2] at hj; cases hj
    unfold adjN
    split<;>omega
   by_cases h5:y.op=5
   ·have hb:isBr y.op=false:=by rw[h5]; decide
    rw[if_pos h5,decide_eq_true_eq] at o3
    have:=tgt y.k (by simp[za8,h5]) (by omega)
    simp only[hb,h5,if_true,Bool.true_and,Bool.false_eq_true,if_false,Bool.and_true,decide_eq_true_eq,show isBr 5=false by decide]
    simp only[putI,h5,if_true]
    exact this
   ·cases hb:isBr y.op
    ·simp[h5]
    ·obtain⟨b1,b2,b3,b4⟩:=hbo hb
     rw[if_pos hb,decide_eq_true_eq] at o4
     have t1:=tgt y.jt.toNat (by simp[za8,h5,hb]) (by omega)
     have t2:=tgt y.jf.toNat (by simp[za8,h5,hb]) (by omega)
     simp only[h5,hb,if_false,if_true,Bool.true_and,decide_eq_true_eq]
     simp only[putI,h5,hb,if_false,if_true]
     omega
  ·rw[putL,List.append_assoc,List.getElem?_append_right (by rw[zcZ]; omega),zcZ] at hx
   by_cases hiw:i-a<w.length
   ·rw[List.getElem?_append_left hiw] at hx
    exact zrS (zkh hw x (List.mem_of_getElem? hx)) _
   ·rw[List.getElem?_append_right (by omega),List.getElem?_drop] at hx
    have ho:=(zex hs hx).1
    rw[←ho]; congr 1
    have:=(List.getElem?_eq_some_iff.1 hx).1
    omega
 have h2:endB (putL f a n w)=true:=by
  have he:endB f=true:=by simp only[zap,Bool.and_eq_true] at hs; exact hs.2
  have hne:f.drop (a+n)≠[]:=by
   intro h
   have:=congrArg List.length h
   rw[List.length_drop] at this; simp at this; omega
  have:(putL f a n w).getLast?=f.getLast?:=by
   rw[putL,List.getLast?_append,List.getLast?_drop,if_neg (by omega)]
   cases hq:f.getLast? with
   | none=>simp only[endB,hq] at he; cases he
   | some z=>rfl
  simp only[endB,this]
  exact he
 have h3:(putL f a n w).length≤4096:=by rw[hL]; omega
 simp[zap,h1,h2,h3]
theorem zAj{f w:List In4}{a n:Nat}(hk:∀ x∈f,x.k<4294967296)(hkw:∀ x∈w,x.k<4294967296):∀ x∈putL f a n w,x.k<4294967296:=by
 intro x hx
 simp only[putL,List.mem_append] at hx
 rcases hx with(hx|hx)|hx
 ·simp only[pre,List.mem_map,List.mem_range] at hx
  obtain⟨i,hi,rfl⟩:=hx
  have hy:(f.getD i RET).k<4294967296:=by
   rw[List.getD]
   cases hg:f[i]? with
   | none=>decide
   | some z=>exact hk z (List.mem_of_getElem? hg)
  generalize f.getD i RET=y at hy
  have hadl:∀ d:Nat,adjN a (a+n) (n-w.length) i d≤d:=fun d=>by unfold adjN; split<;>omega
  unfold putI
  split
  ·have:=hadl y.k; simp only; omega
  ·split<;>exact hy
 ·exact hkw x hx
 ·exact hk x (List.mem_of_mem_drop hx)
end Go.Ev
/- A filter in which another window was put, run: plain. -/
namespace Go.Ev
open Go Go.RowKit
theorem zm3{x:In4}(h:zaK x=true):x.op≠5∧isBr x.op=false∧x.op≠6∧x.op≠22:=by
 simp only[zaK,Bool.and_eq_true] at h
 obtain⟨h1,h2,h3⟩:=ziD h.1.1
 simp only[zaB,decide_eq_false_iff_not,not_or] at h3
 exact⟨h1,h2,h3.1,h3.2⟩
theorem zrV(g:List In4):bh g [0]=nd g:=by
 funext p
 simp[bh]
end Go.Ev
/- Filters without what is never come to: plain laws. -/
namespace Go.Ev
open Go Go.RowKit
def cntB(m:List Bool)(n:Nat):Nat:=(m.take n).countP id
def prX(m:List Bool)(x:In4):In4:=if x.op=5 then{ x with k:=cntB m x.k } else if isBr x.op then{ x with jt:=(cntB m x.jt.toNat:Nat),jf:=(cntB m x.jf.toNat:Nat) } else x
def pruR:List In4→List Bool→List In4
 | x::f,true::m=>prX m x::pruR f m
 | _::f,false::m=>pruR f m
 | _,_=>[]
def clsB:List In4→List Bool→Prop
 | x::f,b::m=>(b=true→∀ o∈offs x,m[o]?=some true)∧clsB f m
 | [],[]=>True
 | _,_=>False
theorem zdt:∀{f:List In4} {m:List Bool},clsB f m→f.length=m.length
 | [],[],_=>rfl
 | [],_::_,h=>by cases h
 | _::_,[],h=>by cases h
 | x::f,b::m,h=>by simp[zdt h.2]
theorem zm4:∀{f:List In4} {m:List Bool} (o:Nat),clsB f m→clsB (f.drop o) (m.drop o)
 | _,_,0,h=>by simpa using h
 | [],[],o+1,h=>by simp[clsB]
 | [],_::_,_+1,h=>by cases h
 | _::_,[],_+1,h=>by cases h
 | x::f,b::m,o+1,h=>by simpa using zm4 o h.2
theorem zjq(b:Bool)(m:List Bool)(n:Nat):cntB (b::m) (n+1)=(if b then 1 else 0)+cntB m n:=by
 cases b<;>simp[cntB,Nat.add_comm]
theorem zdu(m:List Bool):cntB m 0=0:=by simp[cntB]
theorem ziH:∀(f:List In4) (m:List Bool) (o:Nat),f.length=m.length→(pruR f m).drop (cntB m o)=pruR (f.drop o) (m.drop o)
 | f,m,0,h=>by simp[zdu]
 | [],m,o+1,h=>by
  have:m=[]:=List.eq_nil_of_length_eq_zero (by simpa using h.symm)
  subst this
  simp[pruR]
 | x::f,[],o+1,h=>by simp at h
 | x::f,b::m,o+1,h=>by
  have ih:=ziH f m o (by simpa using h)
  rw[zjq]
  cases b with
  | true =>
   rw[if_pos rfl,pruR,Nat.add_comm,List.drop_succ_cons,ih]; rfl
  | false =>
   simp only[Bool.false_eq_true,if_false,Nat.zero_add,pruR]
   rw[ih]; rfl
theorem zg0(m:List Bool)(x:In4):(prX m x).op=x.op:=by
 unfold prX
 split
 ·rfl
 ·split<;>rfl
theorem ztz(m:List Bool)(s:St)(x:In4)(d:Da):zbl s (prX m x) d=zbl s x d:=by
 by_cases h5:x.op=5
 ·have e1:aluT (5:Int)=(0,false,false):=by decide
  have e2:(prX m x).op=5:=by rw[zg0,h5]
  have o:∀ y:In4,y.op=5→zbl s y d=(s,true):=fun y hy=>by
   simp only[zbl,hy,e1,Bool.false_eq_true,if_false,zcC]
   simp
  rw[o _ e2,o _ h5]
 ·unfold prX
  rw[if_neg h5]
  split<;>rfl
theorem ztA(m:List Bool)(s:St)(x:In4):goes s (prX m x)=cntB m (goes s x):=by
 have ho:=zg0 m x
 by_cases h5:x.op=5
 ·simp only[goes,ho,h5,if_true]
  simp[prX,h5]
 by_cases hb:isBr x.op=true
 ·have hp:prX m x={ x with jt:=(cntB m x.jt.toNat:Nat),jf:=(cntB m x.jf.toNat:Nat) }:=by rw[prX,if_neg h5,if_pos hb]
  have ht:takesB s (prX m x)=takesB s x:=by rw[hp]; rfl
  simp only[goes,ho,if_neg h5,hb,if_true,ht]
  rw[hp]
  cases takesB s x<;>simp
 ·simp[goes,ho,h5,hb,zdu]
theorem zp2(d:Da):∀(n:Nat) (f:List In4) (m:List Bool) (s:St),f.length≤n→clsB f m→m[0]?=some true→run d (pruR f m) s=run d f s
 | _,[],[],_,_,_,h=>by cases h
 | _,[],_::_,_,_,h,_=>by cases h
 | _,_::_,[],_,_,h,_=>by cases h
 | 0,_::_,_,_,h,_,_=>by simp at h
 | n+1,x::f,b::m,s,hn,hc,h0=>by
  simp only[List.getElem?_cons_zero,Option.some.injEq] at h0
  subst h0
  rw[pruR,zoY,zoY,zg0,ztz,ztA]
  by_cases h6:x.op=6
  ·have hk:(prX m x).k=x.k:=by
    have:isBr (6:Int)=false:=by decide
    simp[prX,h6,this]
   rw[if_pos h6,if_pos h6,hk]
  rw[if_neg h6,if_neg h6]
  by_cases h22:x.op=22
  ·rw[if_pos h22,if_pos h22]
  rw[if_neg h22,if_neg h22]
  by_cases hg:(zbl s x d).2=true
  case neg=>rw[if_neg hg,if_neg hg]
  rw[if_pos hg,if_pos hg]
  have he:zaB x.op=false:=by simp[zaB,h6,h22]
  have hm:=hc.1 rfl _ (zsB he s)
  have ih:=zp2 d n (f.drop (goes s x)) (m.drop (goes s x)) (zbl s x d).1 (by simp at hn ⊢; omega) (zm4 _ hc.2) (by rw[List.getElem?_drop,Nat.add_zero]; exact hm)
  rw[ziH f m _ (zdt hc.2),ih]
theorem zfk:∀(f:List In4) (m:List Bool),f.length=m.length→(pruR f m).length=m.countP id
 | [],[],_=>rfl
 | [],_::_,h=>by simp at h
 | _::_,[],h=>by simp at h
 | x::f,true::m,h=>by simp[pruR,zfk f m (by simpa using h)]
 | x::f,false::m,h=>by simp[pruR,zfk f m (by simpa using h)]
theorem zmg{m:List Bool}{o:Nat}(h:m[o]?=some true):cntB m o<m.countP id:=by
 have hl:=(List.getElem?_eq_some_iff.1 h).1
 have e:m=m.take o++true::m.drop (o+1):=by
  have:=List.drop_eq_getElem_cons hl
  rw[(List.getElem?_eq_some_iff.1 h).2] at this
  rw[←this,List.take_append_drop]
 rw[cntB]
 conv=>rhs; rw[e,List.countP_append,List.countP_cons]
 simp
theorem zgR(m:List Bool)(o:Nat):cntB m o≤o:=by
 have:=List.countP_le_length (p:=id) (l:=m.take o)
 rw[cntB]
 have h2:=List.length_take_le o m
 omega
theorem zrW{x:In4}(m:List Bool)(h:zaT x=true)(hr:zbj x=true):zaT (prX m x)=true∧zbj (prX m x)=true:=by
 have hbo:=zb6 h
 have hcl:∀ n,cntB m n≤n:=zgR m
 obtain⟨op,jt,jf,k⟩:=x
 by_cases h5:op=5
 ·subst h5
  have hb:isBr 5=false:=by decide
  simp only[prX,if_true]
  constructor
  ·simp only[zaT] at h ⊢
   have hs:za4 5=some (5,[106,97],true,false):=by decide
   simp only[hs] at h ⊢
   simpa using h
  ·simp[zbj]
 ·cases hb:isBr op
  ·simp[prX,h5,hb,h,hr]
  ·obtain⟨b1,b2,b3,b4⟩:=hbo hb
   simp only at b1 b2 b3 b4
   have e:prX m ⟨op,jt,jf,k⟩=⟨op,(cntB m jt.toNat:Nat),(cntB m jf.toNat:Nat),k⟩:=by simp[prX,h5,hb]
   rw[e]
   constructor
   ·simp only[zaT] at h ⊢
    cases hs:za4 op with
    | none=>rw[hs] at h; cases h
    | some r =>
     rw[hs] at h
     simp only[Bool.and_eq_true] at h ⊢
     refine⟨h.1,?_⟩
     have h2:=h.2
     have c1:=hcl jt.toNat
     have c2:=hcl jf.toNat
     split at h2
     ·rename_i hh
      rw[if_pos hh,decide_eq_true_eq]
      omega
     ·rename_i hh
      rw[decide_eq_true_eq] at h2
      rw[if_neg hh,decide_eq_true_eq]
      omega
   ·simpa[zbj] using hr
theorem zjr:∀{f:List In4} {m:List Bool},clsB f m→zaM f=true→zaM (pruR f m)=true
 | [],[],_,_=>rfl
 | [],_::_,h,_=>by cases h
 | _::_,[],h,_=>by cases h
 | x::f,false::m,h,ho=>by
  rw[zaM,Bool.and_eq_true] at ho
  rw[pruR]
  exact zjr h.2 ho.2
 | x::f,true::m,h,ho=>by
  rw[zaM,Bool.and_eq_true] at ho
  rw[pruR,zaM,Bool.and_eq_true]
  refine⟨?_,zjr h.2 ho.2⟩
  have h1:=ho.1
  simp only[oneB,Bool.and_eq_true] at h1
  obtain⟨⟨⟨r1,r2⟩,r3⟩,r4⟩:=h1
  obtain⟨p1,p2⟩:=zrW m r1 r2
  have hcl:=h.1 rfl
  rw[oneB,p1,p2,zfk f m (zdt h.2),zg0]
  simp only[Bool.true_and,Bool.and_eq_true]
  constructor
  ·by_cases h5:x.op=5
   ·have:=hcl x.k (by have:zaB (5:Int)=false:=(by decide); simp[offs,h5,this])
    rw[if_pos h5,decide_eq_true_eq]
    simp only[prX,if_pos h5]
    exact zmg this
   ·rw[if_neg h5]
  ·by_cases hb:isBr x.op=true
   ·have h5:x.op≠5:=fun e=>by rw[e] at hb; revert hb; decide
    have he:zaB x.op=false:=by
     rcases br_two hb with e|e|e|e|e|e|e|e<;>rw[e]<;>decide
    have t1:=hcl x.jt.toNat (by simp[offs,he,h5,hb])
    have t2:=hcl x.jf.toNat (by simp[offs,he,h5,hb])
    have c1:=zmg t1
    have c2:=zmg t2
    rw[if_pos hb,decide_eq_true_eq]
    simp only[prX,if_neg h5,if_pos hb]
    omega
   ·rw[if_neg hb]
theorem zok:∀{f:List In4} {m:List Bool},f.length=m.length→m.any id=false→pruR f m=[]
 | [],[],_,_=>rfl
 | [],_::_,h,_=>by simp at h
 | _::_,[],h,_=>by simp at h
 | x::f,true::m,_,h=>by simp at h
 | x::f,false::m,h,h2=>by
  rw[pruR]
  exact zok (by simpa using h) (by simpa using h2)
theorem zol:∀{f:List In4} {m:List Bool},f.length=m.length→m.any id=true→pruR f m≠[]
 | [],[],_,h=>by simp at h
 | [],_::_,h,_=>by simp at h
 | _::_,[],h,_=>by simp at h
 | x::f,true::m,_,_=>by simp[pruR]
 | x::f,false::m,h,h2=>by
  rw[pruR]
  exact zol (by simpa using h) (by simpa using h2)
theorem zrX{x:In4}{f:List In4}(h:f≠[]):endB (x::f)=endB f:=by
 cases f with
 | nil=>exact absurd rfl h
 | cons y f=>simp[endB,List.getLast?_cons_cons]
theorem zvt{x:In4}(h:zaB x.op=false):offs x≠[]:=by
 unfold offs
 rw[h]
 simp only[Bool.false_eq_true,if_false]
 split
 ·simp
 ·split<;>simp
theorem zp3:∀{f:List In4} {m:List Bool},clsB f m→m.any id=true→endB (pruR f m)=true
 | [],[],_,h=>by simp at h
 | [],_::_,h,_=>by cases h
 | _::_,[],h,_=>by cases h
 | x::f,b::m,h,h2=>by
  have hl:=zdt h.2
  cases ha:m.any id with
  | true =>
   have ih:=zp3 h.2 ha
   cases b with
   | true=>rw[pruR,zrX (zol hl ha),ih]
   | false=>rw[pruR,ih]
  | false =>
   have hb:b=true:=by
    rw[List.any_cons,ha] at h2
    simpa using h2
   subst hb
   rw[pruR,zok hl ha]
   simp only[endB,List.getLast?_singleton,zg0]
   cases he:zaB x.op with
   | true=>rfl
   | false =>
    exfalso
    cases ho:offs x with
    | nil=>exact zvt he ho
    | cons o l =>
     have:=h.1 rfl o (by rw[ho]; simp)
     have hm:=List.mem_of_getElem? this
     have:m.any id=true:=List.any_eq_true.2 ⟨true,hm,rfl⟩
     rw[ha] at this; cases this
theorem zrY{f:List In4}{m:List Bool}(hs:zap f=true)(hc:clsB f m)(h0:m[0]?=some true):zap (pruR f m)=true:=by
 have hl:=zdt hc
 have h1:=zfk f m hl
 have h2:=List.countP_le_length (p:=id) (l:=m)
 have ha:m.any id=true:=List.any_eq_true.2 ⟨true,List.mem_of_getElem? h0,rfl⟩
 simp only[zap,Bool.and_eq_true,decide_eq_true_eq] at hs ⊢
 exact⟨⟨by omega,zjr hc hs.1.2⟩,zp3 hc ha⟩
theorem zp4:∀{f:List In4} {m:List Bool},f.length=m.length→(∀ b∈m,b=true)→zaM f=true→pruR f m=f
 | [],[],_,_,_=>rfl
 | [],_::_,h,_,_=>by simp at h
 | _::_,[],h,_,_=>by simp at h
 | x::f,b::m,h,hm,ho=>by
  have hb:b=true:=hm b (by simp)
  subst hb
  rw[zaM,Bool.and_eq_true] at ho
  have hl:f.length=m.length:=by simpa using h
  have hcn:∀ n,n≤m.length→cntB m n=n:=fun n hn=>by
   have:(m.take n).countP id=(m.take n).length:=List.countP_eq_length.2 fun b hb=>hm b (by simp[List.mem_of_mem_take hb])
   rw[cntB,this,List.length_take]; omega
  rw[pruR,zp4 hl (fun b hb=>hm b (by simp[hb])) ho.2]
  have h1:=ho.1
  simp only[oneB,Bool.and_eq_true] at h1
  obtain⟨⟨⟨r1,r2⟩,r3⟩,r4⟩:=h1
  have hbo:=zb6 r1
  congr 1
  obtain⟨op,jt,jf,k⟩:=x
  by_cases h5:op=5
  ·simp only[h5,if_true,decide_eq_true_eq] at r3
   simp only[prX,h5,if_true]
   rw[hcn k (by omega)]
  ·cases hbr:isBr op
   ·simp[prX,h5,hbr]
   ·obtain⟨b1,b2,b3,b4⟩:=hbo hbr
    simp only[hbr,if_true,decide_eq_true_eq] at r4
    simp only at b1 b2 b3 b4
    simp only[prX,h5,hbr,if_true,if_false]
    rw[hcn _ (by omega),hcn _ (by omega)]
    simp; omega
end Go.Ev
/- The numbers of which letters are made. -/
namespace Go.Ev
open Go Go.RowKit
variable {G:Tbl}
def ownB(x:In4):Bool:=((aluT x.op).2.2&&!(aluT x.op).2.1)||decide (x.op=0)||decide (x.op=1)
def ownN(w:List In4):List Nat:=(w.filter ownB).map In4.k
theorem zrZ(w:List In4)(x:In4):ownN (w++[x])=if ownB x then ownN w++[x.k] else ownN w:=by
 unfold ownN
 rw[List.filter_append,List.map_append]
 by_cases h:ownB x=true<;>simp[h,List.filter_cons]
theorem ziI(w:List In4):(ownN w).length≤w.length:=by simp[ownN,List.length_filter_le]
noncomputable def zdO(w:List In4):List Nat :=
 (constI (winV [] w).L ((winV [] w).p.getD 0 0)).toList++((valI (zae 34) (winV [] w).L ((winV [] w).p.getD 0 0)).toList++(valI (4294967295::zae 33) (winV [] w).L ((winV [] w).p.getD 0 0)).toList)
theorem zvu[HasSymNew G](H:Heap):Big G (.F 256 [] H (.ptr (H.length+1) 0) (H++[some (.map []),some (.cells [.vs [] .full,.mp H.length])])):=by
 refine F_of HasSymNew.h_sym_New (Nat.le_of_ble_eq_true rfl) ?_
 simp[ap0,apk,set0,setk]
def BH(a:Option Blk)(L:List Nd):Heap:=[a,some (.map (ents L)),some (zdR L 3 1),some (.zone L.length)]
theorem zuU{a:Option Blk}{L:List Nd}(ha:∀ n,a.map (Blk.cl n)=a)(hok:∀ x∈L,x.ok)(hs:L.length≤1000000):Bk (BH a L) 2 3 1 L:=by
 refine⟨rfl,rfl,rfl,fun n hn=>?_,hok,hs⟩
 simp only[BH,List.length_cons,List.length_nil] at hn
 simp[BH,zdR,Blk.cl,ha,clL,V.cl,Tk.cl,ents,zmv,show 3<n by omega,show 1<n by omega]
theorem zqQ[HasWd G][HasNeg G][HasIns G][HasCheck G][HasWRight G][HasAffine G][hB:HasBitsE G][HasSymNew G][HasSym G][HasSymEval G][HasWinOf G][HasSrcN G](w:List In4)(hf:w.length≤maxLen)(hk:∀ x∈w,x.k<4294967296)(hw:winB w=true) :
  FP G 326 [FL w] (.vs (nats .u32 (ownN w++zdO w)) .no):=by
 haveI:HasBits G:=hB.toHasBits
 refine zak HasSrcN.h_search_numbers (Nat.le_of_ble_eq_true rfl) ?_
 obtain⟨L,hL⟩:∃ L,L=(winV [] w).L:=⟨_,rfl⟩
 have hv:=zeE Inv.nil w hk
 have hi:Inv L:=by rw[hL]; exact hv.ext.inv
 have hw32:w.length≤32:=by simp only[winB,Bool.and_eq_true,decide_eq_true_eq] at hw; exact hw.1
 have hLl:L.length≤114:=by rw[hL]; have:=hv.ext.len; simp at this; omega
 obtain⟨X,hX⟩:∃ X,X=ofC [] w:=⟨_,rfl⟩
 have lX:X.length=19:=by rw[hX]; exact zme Inv.nil hk
 have cX:∀ n,clL n X=X:=fun n=>by rw[hX]; exact zog w n
 have nX:X.map V.nf1=X:=by rw[hX,ofC,if_pos hw,vcs]; simp[za6,Function.comp_def,V.nf1]
 obtain⟨p0,hp0⟩:∃ p0,p0=(winV [] w).p.getD 0 0:=⟨_,rfl⟩
 have X1:X.take 1=[.int .i64 p0]:=by
  rw[hX,ofC,if_pos hw,zn8 hv.len,hp0,List.getD,List.getElem?_eq_getElem (show 0<(winV [] w).p.length by rw[hv.len]; decide)]; rfl
 have hB0:∀ k,Bk (BH (some (.zone k)) []) 2 3 1 []:=fun k=>zuU (fun n=>rfl) (by simp) (by simp)
 have hB1:∀ k,Bk (BH (some (.zone k)) L) 2 3 1 L:=fun k=>zuU (fun n=>rfl) hi.ok (by omega)
 have hB1x:∀ k,Bk (BH (some (.zone k)) L++[some (.cells X)]) 2 3 1 L:=fun k=>(hB1 k).app fun n=>by simp[Blk.cl,cX]
 have hof:=fun k=>zof (G:=G) w ((hB0 k).app (r:=[none]) fun n=>by simp) Inv.nil (by decide) hf hk
 have e1:∀ k,upd (BH (some (.zone k)) []) 2 3 1 (ofL [] w)=BH (some (.zone k)) L:=fun k=>by rw[hL,ofL,if_pos hw]; rfl
 have hof:∀ k,SF G 296 [.ptr 2 0,.vs (IL w) .no] (BH (some (.zone k)) []++[none]) (.tup [.agg X,.bool true]) (BH (some (.zone k)) L++[none]):=fun k=>by
  have:=hof k
  rw[(hB0 k).upd_app,←hX,e1,hw] at this
  exact this
 have hc:=fun k=>zjl (G:=G) p0 (hB1x k)
 have he0:=fun(k:Nat) (r:Heap) (hr:∀ n,r.map (Option.map (Blk.cl n))=r)=>zs2 (G:=G) p0 (zae 34) ((hB1 k).app hr) hi (by simp) (zbz 34)
 have he1:=fun(k:Nat) (r:Heap) (hr:∀ n,r.map (Option.map (Blk.cl n))=r)=>zs2 (G:=G) p0 (4294967295::zae 33) ((hB1 k).app hr) hi (by simp) (fun c hc=>by rcases List.mem_cons.1 hc with rfl|h; decide; exact zbz 33 c h)
 have hT:zdO w=(constI L p0).toList++((valI (zae 34) L p0).toList++(valI (4294967295::zae 33) L p0).toList):=by rw[hL,hp0]; rfl
 rw[hT]
 generalize constI L p0=o1 at hc ⊢
 generalize valI (zae 34) L p0=o2 at he0 ⊢
 generalize valI (4294967295::zae 33) L p0=o3 at he1 ⊢
 obtain⟨T,hT⟩:∃ T:Nat→List Nat,∀ j,T j=ownN (w.take j):=⟨_,fun _=>rfl⟩
 have T0:T 0=[]:=by rw[hT]; rfl
 have TN:T w.length=ownN w:=by rw[hT,List.take_length]
 have Tl:∀ i,(T i).length≤i:=fun i=>by rw[hT]; exact Nat.le_trans (ziI _) (by rw[List.length_take]; omega)
 simp[FL]
 refine W_up w.length (fun i=>[(0,FL w),(3,.vs (nats .u32 (T i)) (.own 0)),(18,FL w),(19,.int .i64 w.length),(20,.int .i64 i)]) (fun i=>[some (.zone (T i).length)]) (fun _=>True) ?_ ?_
 ·simp[zaa,zac,FL,T0]
 intro i hi' _
 by_cases hlt:i<w.length
 ·obtain⟨x,hx⟩:∃ x,x=w[i]:=⟨_,rfl⟩
  have hg:w[i]?=some x:=by rw[List.getElem?_eq_getElem hlt,hx]
  have hgg:=za2 hlt
  rw[←hx] at hgg
  have hal:=ziy (G:=G) x
  have hcs:x.cs=[.int .i64 x.op,.int .i64 x.jt,.int .i64 x.jf,.int .u32 (x.k:Int)]:=rfl
  have hl:=Tl i
  have hs:T (i+1)=if ownB x then T i++[x.k] else T i:=by rw[hT,hT,List.take_add_one,hg]; exact zrZ _ _
  simp only[IV,hcs] at hal
  have hsn:nats .u32 (T i)++[[V.int .u32 (x.k:Int)]]=nats .u32 (T i++[x.k]):=zeK .u32 (T i) x.k
  simp(disch:=omega)[ltT,FL,hgg,hcs,hlt]
  refine zab hal ?_
  cases ha:(aluT x.op).2.2 with
  | true =>
   cases hb:(aluT x.op).2.1 with
   | false =>
    have hy:ownB x=true:=by simp[ownB,ha,hb]
    rw[if_pos hy] at hs
    have hsl:(T (i+1)).length=(T i).length+1:=by rw[hs]; simp
    rw[←hs] at hsn
    simp(disch:=omega)[ltT,leTn,FL,hgg,hcs,hlt,hsn,hsl,zag,zaa,zac,-Int.natCast_add]
   | true =>
    by_cases o0:x.op=0
    ·have hy:ownB x=true:=by simp[ownB,o0]
     rw[if_pos hy] at hs
     have hsl:(T (i+1)).length=(T i).length+1:=by rw[hs]; simp
     rw[←hs] at hsn
     simp(disch:=omega)[ltT,leTn,FL,hgg,hcs,hlt,o0,hsn,hsl,zag,zaa,zac,-Int.natCast_add]
    by_cases o1:x.op=1
    ·have hy:ownB x=true:=by simp[ownB,o1]
     rw[if_pos hy] at hs
     have hsl:(T (i+1)).length=(T i).length+1:=by rw[hs]; simp
     rw[←hs] at hsn
     simp(disch:=omega)[ltT,leTn,FL,hgg,hcs,hlt,o1,hsn,hsl,zag,zaa,zac,-Int.natCast_add]
    have hy:ownB x=false:=by simp[ownB,hb,o0,o1]
    rw[hy] at hs
    simp only[Bool.false_eq_true,if_false] at hs
    simp(disch:=omega)[ltT,leTn,FL,hgg,hcs,hlt,o0,o1,beqF o0,beqF o1,hs,zag,zaa,zac,-Int.natCast_add]
  | false =>
    by_cases o0:x.op=0
    ·have hy:ownB x=true:=by simp[ownB,o0]
     rw[if_pos hy] at hs
     have hsl:(T (i+1)).length=(T i).length+1:=by rw[hs]; simp
     rw[←hs] at hsn
     simp(disch:=omega)[ltT,leTn,FL,hgg,hcs,hlt,o0,hsn,hsl,zag,zaa,zac,-Int.natCast_add]
    by_cases o1:x.op=1
    ·have hy:ownB x=true:=by simp[ownB,o1]
     rw[if_pos hy] at hs
     have hsl:(T (i+1)).length=(T i).length+1:=by rw[hs]; simp
     rw[←hs] at hsn
     simp(disch:=omega)[ltT,leTn,FL,hgg,hcs,hlt,o1,hsn,hsl,zag,zaa,zac,-Int.natCast_add]
    have hy:ownB x=false:=by simp[ownB,ha,o0,o1]
    rw[hy] at hs
    simp only[Bool.false_eq_true,if_false] at hs
    simp(disch:=omega)[ltT,leTn,FL,hgg,hcs,hlt,o0,o1,beqF o0,beqF o1,hs,zag,zaa,zac,-Int.natCast_add]
 ·have hne:i=w.length:=by omega
  subst hne
  have hol:=ziI w
  obtain⟨O,hO⟩:∃ O,O=ownN w:=⟨_,rfl⟩
  simp only[TN,←hO]
  rw[←hO] at hol
  simp[FL]
  refine zho (zvu _) (by simp) ?_
  simp
  rw[show([some (.zone O.length),some (.map []),some (.cells [.vs [] (.own 3),.mp 1]),some (.zone 0),none]:Heap)=BH (some (.zone O.length)) []++[none] from rfl]
  refine zai (hof _) ?_
  have nB:∀ k,(BH (some (.zone k)) L).length=4:=fun k=>rfl
  have kk:∀(k:Nat) (r:Heap),(BH (some (.zone k)) L++r)[4]?=r[0]?:=fun k r=>apn0 (nB k)
  have k0:∀(k:Nat) (r:Heap) x,(BH (some (.zone k)) L++r).set 4 x=BH (some (.zone k)) L++r.set 0 x:=fun k r x=>zbU (nB k) x
  have kz:∀(k:Nat) (r:Heap),(BH (some (.zone k)) L++r)[0]?=some (some (.zone k)):=fun k r=>rfl
  have sz:∀(k n:Nat) (r:Heap),(BH (some (.zone k)) L++r).set 0 (some (.zone n))=BH (some (.zone n)) L++r:=fun k n r=>rfl
  obtain⟨Z,hZ⟩:∃ Z:List V,Z=vcs (List.replicate 18 0) [] .full:=⟨_,rfl⟩
  have lZ:Z.length=19:=by rw[hZ]; rfl
  have hZz:[V.int .i64 0,.int .i64 0,.int .i64 0,.int .i64 0,.int .i64 0,.int .i64 0,.int .i64 0,.int .i64 0,.int .i64 0,.int .i64 0,.int .i64 0,.int .i64 0,.int .i64 0,.int .i64 0,.int .i64 0,.int .i64 0,.int .i64 0,.int .i64 0,.vs [] .full]=Z:=by rw[hZ]; rfl
  have tX:X.take 19=X:=List.take_of_length_le (by omega)
  have dZ:Z.drop 19=[]:=List.drop_eq_nil_of_le (by omega)
  simp[hZz,lZ,kk,k0,lX,tX,dZ,nX,cX]
  simp[hZz,lZ,kk,k0,lX,tX,dZ,nX,cX,X1]
  refine zai (hc _) ?_
  rcases o1 with _|a
  ·obtain⟨O1,hO1⟩:∃ O1,O1=O++[]:=⟨_,rfl⟩
   have lO1:O1.length≤40:=by rw[hO1]; simp; omega
   obtain⟨F,hF⟩:∃ F:Nat→List Nat,∀ i,F i=O1++(if i=0 then [] else if i=1 then o2.toList else o2.toList++o3.toList):=⟨_,fun _=>rfl⟩
   have F0:F 0=O1:=by rw[hF]; simp
   have F1:F 1=O1++o2.toList:=by rw[hF]; simp
   have F2:F 2=F 1++o3.toList:=by rw[hF,F1]; simp
   have lF:∀ i,(F i).length≤42:=fun i=>by
    rw[hF]
    split
    ·simp; omega
    ·split
     ·cases o2<;>simp<;>omega
     ·cases o2<;>cases o3<;>simp<;>omega
   simp(disch:=omega)[nB,kk,k0,kz,sz,lX,X1,leTn,leFn]
   have hO0:O=O1:=by rw[hO1]; simp
   refine W_up 2 (fun i=>[(3,.vs (nats .u32 (F i)) (.own 0)),(9,.ptr 2 0),(10,.ptr 4 0),(71,.agg [.int .u32 0,.int .u32 4294967295]),(72,.int .i64 i)]) (fun i=>BH (some (.zone (F i).length)) L++[some (.cells X)]) (fun _=>True) ?_ ?_
   ·have:=((hB1 O1.length).app (r:=[some (.cells X)]) fun n=>by simp[Blk.cl,cX]).shut.self
    simp[nB] at this
    simp[zaa,nB,F0,this,hO0]
   intro i hi2 _
   have lFi:=lF i
   have a01:addI .i64 0 1=1:=by decide
   have a11:addI .i64 1 1=2:=by decide
   have ht:∀ k:Nat,zac 5 (BH (some (.zone k)) L++[some (.cells X)])=BH (some (.zone k)) L++[some (.cells X)]:=fun k=>by
    have:=((hB1 k).app (r:=[some (.cells X)]) fun n=>by simp[Blk.cl,cX]).shut.self
    simpa[nB] using this
   have hb:∀(k:Nat),zac 5 (BH (some (.zone k)) L++[some (.cells X),none])=BH (some (.zone k)) L++[some (.cells X)]:=fun k=>by
    have:=((hB1 k).app (r:=[some (.cells X)]) fun n=>by simp[Blk.cl,cX]).shut.back [none]
    simpa[nB] using this
   by_cases h0:i=0
   ·subst h0
    simp[nB,kk,k0,kz,sz,lX,X1]
    refine zai (he0 _ _ fun n=>by simp[Blk.cl,cX]) ?_
    cases o2 with
    | none =>
     have F1':F 1=F 0:=by rw[F1,F0]; simp
     simp[nB,kk,k0,kz,sz,lX,X1,zaa,ht,hb,a01,a11,F1']
    | some y =>
     have F1':F 1=F 0++[y]:=by rw[F1,F0]; simp
     have l1:(F 1).length=(F 0).length+1:=by rw[F1']; simp
     have hsn:nats .u32 (F 0)++[[V.int .u32 (y:Int)]]=nats .u32 (F 1):=by rw[F1']; exact zeK .u32 (F 0) y
     simp(disch:=omega)[nB,kk,k0,kz,sz,lX,X1,leTn,leFn,zaa,ht,hb,a01,a11,hsn,l1]
   by_cases h1:i=1
   ·subst h1
    simp[nB,kk,k0,kz,sz,lX,X1]
    refine zai (he1 _ _ fun n=>by simp[Blk.cl,cX]) ?_
    cases o3 with
    | none =>
     have F2':F 2=F 1:=by rw[F2]; simp
     simp[nB,kk,k0,kz,sz,lX,X1,zaa,ht,hb,a01,a11,F2']
    | some y =>
     have F2':F 2=F 1++[y]:=by rw[F2]; simp
     have l2:(F 2).length=(F 1).length+1:=by rw[F2']; simp
     have hsn:nats .u32 (F 1)++[[V.int .u32 (y:Int)]]=nats .u32 (F 2):=by rw[F2']; exact zeK .u32 (F 1) y
     simp(disch:=omega)[nB,kk,k0,kz,sz,lX,X1,leTn,leFn,zaa,ht,hb,a01,a11,hsn,l2]
   obtain rfl:i=2:=by omega
   have hfin:F 2=O++((none:Option Nat).toList++(o2.toList++o3.toList)):=by rw[F2,F1,hO1]; simp
   simp[hfin]
  ·obtain⟨O1,hO1⟩:∃ O1,O1=O++[a]:=⟨_,rfl⟩
   have lO1:O1.length≤40:=by rw[hO1]; simp; omega
   obtain⟨F,hF⟩:∃ F:Nat→List Nat,∀ i,F i=O1++(if i=0 then [] else if i=1 then o2.toList else o2.toList++o3.toList):=⟨_,fun _=>rfl⟩
   have F0:F 0=O1:=by rw[hF]; simp
   have F1:F 1=O1++o2.toList:=by rw[hF]; simp
   have F2:F 2=F 1++o3.toList:=by rw[hF,F1]; simp
   have lF:∀ i,(F i).length≤42:=fun i=>by
    rw[hF]
    split
    ·simp; omega
    ·split
     ·cases o2<;>simp<;>omega
     ·cases o2<;>cases o3<;>simp<;>omega
   simp(disch:=omega)[nB,kk,k0,kz,sz,lX,X1,leTn,leFn]
   have hsn0:nats .u32 O++[[V.int .u32 (a:Int)]]=nats .u32 O1:=by rw[hO1]; exact zeK .u32 O a
   have l01:O.length+1=O1.length:=by rw[hO1]; simp
   refine W_up 2 (fun i=>[(3,.vs (nats .u32 (F i)) (.own 0)),(9,.ptr 2 0),(10,.ptr 4 0),(71,.agg [.int .u32 0,.int .u32 4294967295]),(72,.int .i64 i)]) (fun i=>BH (some (.zone (F i).length)) L++[some (.cells X),none]) (fun _=>True) ?_ ?_
   ·have:=((hB1 O1.length).app (r:=[some (.cells X),none]) fun n=>by simp[Blk.cl,cX]).shut.self
    simp[nB] at this
    simp[zaa,nB,F0,this,hO1.symm,l01]
   intro i hi2 _
   have lFi:=lF i
   have a01:addI .i64 0 1=1:=by decide
   have a11:addI .i64 1 1=2:=by decide
   have ht:∀ k:Nat,zac 6 (BH (some (.zone k)) L++[some (.cells X),none])=BH (some (.zone k)) L++[some (.cells X),none]:=fun k=>by
    have:=((hB1 k).app (r:=[some (.cells X),none]) fun n=>by simp[Blk.cl,cX]).shut.self
    simpa[nB] using this
   have hb:∀(k:Nat),zac 6 (BH (some (.zone k)) L++[some (.cells X),none,none])=BH (some (.zone k)) L++[some (.cells X),none]:=fun k=>by
    have:=((hB1 k).app (r:=[some (.cells X),none]) fun n=>by simp[Blk.cl,cX]).shut.back [none]
    simpa[nB] using this
   by_cases h0:i=0
   ·subst h0
    simp[nB,kk,k0,kz,sz,lX,X1]
    refine zai (he0 _ _ fun n=>by simp[Blk.cl,cX]) ?_
    cases o2 with
    | none =>
     have F1':F 1=F 0:=by rw[F1,F0]; simp
     simp[nB,kk,k0,kz,sz,lX,X1,zaa,ht,hb,a01,a11,F1']
    | some y =>
     have F1':F 1=F 0++[y]:=by rw[F1,F0]; simp
     have l1:(F 1).length=(F 0).length+1:=by rw[F1']; simp
     have hsn:nats .u32 (F 0)++[[V.int .u32 (y:Int)]]=nats .u32 (F 1):=by rw[F1']; exact zeK .u32 (F 0) y
     simp(disch:=omega)[nB,kk,k0,kz,sz,lX,X1,leTn,leFn,zaa,ht,hb,a01,a11,hsn,l1]
   by_cases h1:i=1
   ·subst h1
    simp[nB,kk,k0,kz,sz,lX,X1]
    refine zai (he1 _ _ fun n=>by simp[Blk.cl,cX]) ?_
    cases o3 with
    | none =>
     have F2':F 2=F 1:=by rw[F2]; simp
     simp[nB,kk,k0,kz,sz,lX,X1,zaa,ht,hb,a01,a11,F2']
    | some y =>
     have F2':F 2=F 1++[y]:=by rw[F2]; simp
     have l2:(F 2).length=(F 1).length+1:=by rw[F2']; simp
     have hsn:nats .u32 (F 1)++[[V.int .u32 (y:Int)]]=nats .u32 (F 2):=by rw[F2']; exact zeK .u32 (F 1) y
     simp(disch:=omega)[nB,kk,k0,kz,sz,lX,X1,leTn,leFn,zaa,ht,hb,a01,a11,hsn,l2]
   obtain rfl:i=2:=by omega
   have hfin:F 2=O++((some a).toList++(o2.toList++o3.toList)):=by rw[F2,F1,hO1]; simp
   simp[hfin]
end Go.Ev
/- Letters: one is put. -/
namespace Go.Ev
open Go Go.RowKit
variable {G:Tbl}
def ltr(l:List In4)(x:In4):List In4:=if x∈l then l else if winB [x]=true then l++[x] else l
theorem zki(l:List In4)(x:In4):(ltr l x).length≤l.length+1:=by unfold ltr; split; omega; split<;>simp
def mls(l:List In4):List (V×V):=l.map fun x=>(IV x,.bool true)
theorem zr0{x:In4}:∀{l:List In4} (i:Nat),x∈l→zbw (.row [.int,.int,.int,.int]) (.agg x.cs) (mls l) i=some (some (i+l.idxOf x,.bool true))
 | [],i,h=>by cases h
 | y::l,i,h=>by
  simp only[mls,List.map_cons,zbw,zbc,IV,aeq4]
  by_cases e:x=y
  ·subst e; simp
  ·have hm:x∈l:=by simpa[e] using h
   have ih:=zr0 (i+1) hm
   have hix:(y::l).idxOf x=l.idxOf x+1:=by rw[List.idxOf_cons,beq_false_of_ne (Ne.symm e)]; rfl
   simp only[mls,IV] at ih
   simp only[e,decide_false,ih,hix,show i+1+l.idxOf x=i+(l.idxOf x+1) from by omega]
theorem zmh{x:In4}:∀{l:List In4} (i:Nat),x∉l→zbw (.row [.int,.int,.int,.int]) (.agg x.cs) (mls l) i=some none
 | [],i,_=>rfl
 | y::l,i,h=>by
  simp only[List.mem_cons,not_or] at h
  have ih:=zmh (i+1) h.2
  simp only[mls,IV] at ih
  simp only[mls,List.map_cons,zbw,zbc,IV,aeq4,h.1,decide_false,ih]
def BL3(a b:List In4)(n:Nat):Heap:=[some (.cells [.vs (IL a) (.own 3)]),some (.map (mls b)),some (.cells [.mp 1]),some (.zone n)]
def BL(l:List In4):Heap:=BL3 l l l.length
theorem zmi(a b:List In4)(n:Nat):za7 (BL3 a b n):=by
 intro m hm
 simp only[BL3,List.length_cons,List.length_nil] at hm
 have hmap:(mls b).map (fun p=>(p.1.cl m,p.2.cl m))=mls b:=by
  simp[mls,IV,In4.cs,V.cl,clL,Function.comp_def]
 simp[BL3,Blk.cl,clL,V.cl,Tk.cl,show 3<m by omega,show 1<m by omega,hmap]
theorem zkj[HasIns G][HasCheck G][HasWRight G][HasSrcL G](l:List In4)(x:In4)(r:Heap)(hr:∀ n,r.map (Option.map (Blk.cl n))=r)(hl:l.length≤1000000)(hk:x.k<4294967296) :
  SF G 327 [IV x,.ptr 2 0,.ptr 0 0] (BL l++r) (.tup []) (BL (ltr l x)++r):=by
 refine zby HasSrcL.h_search_Letters_1 (Nat.le_of_ble_eq_true rfl) ?_
 have nB:∀ a b n,(BL3 a b n).length=4:=fun a b n=>rfl
 have hxl:x.cs.length=4:=rfl
 have hxt:x.cs.take 4=x.cs:=rfl
 have kx:∀ n,clL n x.cs=x.cs:=fun n=>by simp[In4.cs,clL,V.cl]
 have nx:x.cs.map V.nf1=x.cs:=rfl
 have g0:∀ a b n (s:Heap),(BL3 a b n++s)[0]?=some (some (.cells [.vs (IL a) (.own 3)])):=fun a b n s=>rfl
 have g1:∀ a b n (s:Heap),(BL3 a b n++s)[1]?=some (some (.map (mls b))):=fun a b n s=>rfl
 have g2:∀ a b n (s:Heap),(BL3 a b n++s)[2]?=some (some (.cells [.mp 1])):=fun a b n s=>rfl
 have g3:∀ a b n (s:Heap),(BL3 a b n++s)[3]?=some (some (.zone n)):=fun a b n s=>rfl
 have s0:∀ a a' b n (s:Heap),(BL3 a b n++s).set 0 (some (.cells [.vs (IL a') (.own 3)]))=BL3 a' b n++s:=fun a a' b n s=>rfl
 have s1:∀ a b b' n (s:Heap),(BL3 a b n++s).set 1 (some (.map (mls b')))=BL3 a b' n++s:=fun a b b' n s=>rfl
 have s3:∀ a b n n' (s:Heap),(BL3 a b n++s).set 3 (some (.zone n'))=BL3 a b n'++s:=fun a b n n' s=>rfl
 have kk:∀ a b n (s:Heap),(BL3 a b n++(r++s))[4+r.length]?=s[0]?:=fun a b n s=>by
  rw[←List.append_assoc]; exact apn0 (by simp[nB])
 have k0:∀ a b n (s:Heap) y,(BL3 a b n++(r++s)).set (4+r.length) y=BL3 a b n++(r++s.set 0 y):=fun a b n s y=>by
  rw[←List.append_assoc,zbU (by simp[nB]),List.append_assoc]
 have hpu:(∀ y∈x.cs,y.pure=true)=True:=eq_true (fun y hy=>by simp only[In4.cs,List.mem_cons,List.not_mem_nil,or_false] at hy; rcases hy with rfl|rfl|rfl|rfl<;>rfl)
 have hself:=aeq4 x x
 simp only[decide_true] at hself
 have hwr:=zbZ (G:=G) [x] (by simp[maxLen]) (fun y hy=>by simp at hy; rw[hy]; exact hk)
 simp only[FL,IL,List.map_cons,List.map_nil] at hwr
 have bk:∀ a b n (s:Heap),zac (4+r.length) (BL3 a b n++(r++s))=BL3 a b n++r:=fun a b n s=>by
  have:=((zmi a b n).app hr).back s
  rw[List.append_assoc,List.length_append,nB] at this
  exact this
 simp[BL,nB,IV,hxl,hxt,kx,nx,g0,g1,g2,g3,kk,k0,zbc,hself]
 by_cases hin:x∈l
 ·have hR:ltr l x=l:=if_pos hin
  simp[zr0 0 hin,hR,bk]
 ·simp[zmh 0 hin,zbc,hself,hxl,hxt,kx,nx,g0,g1,g2,g3,kk,k0,hpu]
  refine zab hwr ?_
  cases hw:winB [x] with
  | false =>
   have hR:ltr l x=l:=by rw[ltr,if_neg hin,hw]; rfl
   simp[hR,bk]
  | true =>
   have hR:ltr l x=l++[x]:=by rw[ltr,if_neg hin,hw]; rfl
   have hm:mls l++[(V.agg x.cs,V.bool true)]=mls (l++[x]):=by simp[mls,IV]
   have hil:IL l++[x.cs]=IL (l++[x]):=by simp[IL]
   have hpure:x.cs.all V.pure=true:=rfl
   have hisz:∀ f∈IL l,f.length=4:=fun f hf=>by simp only[IL,List.mem_map] at hf; obtain⟨y,_,rfl⟩:=hf; rfl
   have hb:(l.length+1)*32≤140737488355328:=by omega
   have s0':∀ a a' b n,(BL3 a b n).set 0 (some (.cells [.vs (IL a') (.own 3)]))=BL3 a' b n:=fun a a' b n=>rfl
   have s1':∀ a b b' n,(BL3 a b n).set 1 (some (.map (mls b')))=BL3 a b' n:=fun a b b' n=>rfl
   have s3':∀ a b n n',(BL3 a b n).set 3 (some (.zone n'))=BL3 a b n':=fun a b n n'=>rfl
   simp[zmh 0 hin,zbc,hself,hxl,hxt,kx,nx,g0,g1,g2,g3,kk,k0,nB,hm,s1,hpu,s0',s1',s3',hb,hR,bk]
theorem zeF{f:Nat}{cap args:List V}{r:V}{H H':Heap}{base:Nat}{d:Option Nat}{os:List SOper}{K:List Kt}{e:Env}{Q:Ex→Env→Heap→Prop}(h:SF G f (args++cap) H r H')
  (hr:WO G base os K (e.put d r) H' Q):zkr G false (.fn f cap) args base d os K e H Q:=by
 obtain⟨r1,H1,hb,hr1,ht⟩:=h
 refine zaF hb (fun h=>by cases h) ?_
 rw[hr1,ht]
 exact hr
end Go.Ev
